/- Contracts of the book's functions: an order more. -/
import Derived.Test.YtckkcgkgfkgfdaaCB2
set_option linter.unusedVariables false
set_option linter.unusedSimpArgs false
namespace Go.Proofs.Ytckkcgkgfkgfdaa.AM
open Ytckkcgkgfkgfdaa
set_option maxRecDepth 20000
def rowWith (r : BRow) (w : Int) (o : Ordr) : BRow := ⟨(r.nums ++ [o.number]).drop (max ((r.nums.length : Int) + 1 - w) 0).toNat, o.second, if r.second = o.second then IntKind.i64.wrap (r.count + 1) else 1⟩
theorem c27 {P : Program} (hP : Try.prog = P) (r : BRow) (h1 : r.nums.length ≤ 1000000000000) (w : Int) (hw : 0 ≤ w) (hw2 : w ≤ 1000000) (o : Ordr) (nx : Nat) : ACalls P 27 [eRow r, .int false .i64 w, eOrd o] [] nx (fun v ob n => ∃ r', v = eRow r' ∧ r' = rowWith r w o ∧ ob = []) := by
  obtain ⟨nums, sec, cnt⟩ := r
  obtain ⟨acct, sym, sell, price, qty, number, second⟩ := o
  subst hP
  refine acalls_go (nm := []) (pl := pl27) (c := code Try.f27) tab_ok mixed Try.func27 (by kernel_rfl) (by kernel_rfl) (by exact pl27_ok) ?_
  intro O P Q hO hP hQ
  have hsame : ∀ a, O.neq a a = true := fun a => by rw [← hO]; simp [real]
  obtain ⟨nadd, nsub, nmul, nquo, nrem, nbits, nshl, nshr, nwrap, nmax, nmin, nlt, nle, neq, nnot, nbeq, nband, ni2n, nn2i, ninb, nnadd, nnsub, nnle, nnlt, nneq, nlen, nget, nupd, napp, ntak, ndrp, nspl, nrep, nnth, nmlen, ncut, nemap, nslen, nsidx, nscut, nscat, nseq, nfcmp, ni2f⟩ := O
  replace hsame : ∀ a, nneq a a = true := hsame
  cbv
  repeat' (first | exact hsame _ | refine And.intro ?_ ?_ | (refine (c49 hP _ _ _ _ _ _ h1 _).fr ?_; rintro _ _ _ ⟨k, rfl, hk, rfl⟩; cbv) | (split <;> (rename_i hc; (try rw [hc]); (try cbv))))
  all_goals
    simp only [real, Num.mk.injEq] at hO
    obtain ⟨rfl, rfl, rfl, rfl, rfl, rfl, rfl, rfl, rfl, rfl, rfl, rfl, rfl, rfl, rfl, rfl, rfl, rfl, rfl, rfl, rfl, rfl, rfl, rfl, rfl, rfl, rfl, rfl, rfl, rfl, rfl, rfl, rfl, rfl, rfl, rfl, rfl, rfl, rfl, rfl, rfl, rfl, rfl, rfl⟩ := hO
    subst hQ
    try subst hI
    try subst hμ
    clear hsame
    try dsimp only at *
    try simp only [nc] at *
    try simp only [Int.ofNat_eq_natCast, decide_eq_true_eq, decide_eq_false_iff_not, Bool.and_eq_true, beq_iff_eq, beq_eq_false_iff_ne, ne_eq, Bool.false_eq_true, reduceCtorEq, Nat.add_eq, Nat.sub_eq, Nat.blt_eq, Nat.ble_eq, Nat.zero_add, Nat.add_zero, Bool.not_eq_true', Bool.not_eq_false', fEnt, fRow] at *
  all_goals
    have hlo : (if 0 > IntKind.i64.wrap (((k + 1 : Nat) : Int) - w) then 0 else IntKind.i64.wrap (((k + 1 : Nat) : Int) - w)) = max ((nums.length : Int) + 1 - w) 0 := by
      rw [wI (by omega) (by omega)]; split <;> omega
  all_goals try rw [hlo]
  all_goals try clear hlo
  all_goals try (first | omega | decide | (simp only [List.length_cons, List.length_nil, List.length_map, List.length_append, eqb_iff]; omega))
  · refine FQ.frz 49005 rfl ?_ ?_
    rotate_left
    simp only [tupOf, frz, frzs, isIt, eqb_self, cond_true, cond_false, cutSeq, delOb]
    rotate_right
    simp only [tupOf, frzC, frzCs, isIt, eqb_self, cond_true, cond_false, seqLe, real, List.append_nil, List.nil_append, List.mem_cons, List.not_mem_nil, or_false, forall_eq, List.cons_append]
    · simp; omega
    · refine FQ.unl (FQ.wk (Wk.agg (Wks.cons (Wk.mlist (l := (nums ++ [number]).drop (max ((nums.length : Int) + 1 - w) 0).toNat) (enc := eI) (d := 0) ?_ id id) (Wks.refl _))) (FQ.forget (FQ.done ⟨rowWith ⟨nums, sec, cnt⟩ w ⟨acct, sym, sell, price, qty, number, second⟩, ?_, rfl, rfl⟩)))
      · simp only [real, eI]
        subst hk
        simp only [List.append_eq, List.drop_zero, List.map_drop, List.map_append, List.map_cons, List.map_nil, List.take_succ_cons, List.take_zero]
        rw [List.take_of_length_le (by simp)]
        rfl
      · simp [eRow, rowWith, hc, unl, unls]
  · refine FQ.frz 49005 rfl ?_ ?_
    rotate_left
    simp only [tupOf, frz, frzs, isIt, eqb_self, cond_true, cond_false, cutSeq, delOb]
    rotate_right
    simp only [tupOf, frzC, frzCs, isIt, eqb_self, cond_true, cond_false, seqLe, real, List.append_nil, List.nil_append, List.mem_cons, List.not_mem_nil, or_false, forall_eq, List.cons_append]
    · simp; omega
    · refine FQ.unl (FQ.wk (Wk.agg (Wks.cons (Wk.mlist (l := (nums ++ [number]).drop (max ((nums.length : Int) + 1 - w) 0).toNat) (enc := eI) (d := 0) ?_ id id) (Wks.refl _))) (FQ.forget (FQ.done ⟨rowWith ⟨nums, sec, cnt⟩ w ⟨acct, sym, sell, price, qty, number, second⟩, ?_, rfl, rfl⟩)))
      · simp only [real, eI]
        subst hk
        simp only [List.append_eq, List.drop_zero, List.map_drop, List.map_append, List.map_cons, List.map_nil, List.take_succ_cons, List.take_zero]
        rw [List.take_of_length_le (by simp)]
        rfl
      · simp [eRow, rowWith, hc, unl, unls]
theorem c9 {P : Program} (hP : Try.prog = P) (g f : Bool) (c : Cfg) (h1 : c.accounts.length ≤ 1000000000000) (s : Int) (nx : Nat) : ACalls P 9 [eCfg g f c, .int false .i64 s] [] nx (fun v ob n => ∃ b', v = eBk b' ∧ b' = ⟨s, 0, List.replicate c.accounts.length dRow, []⟩ ∧ ob = []) := by
  subst hP
  refine acalls_go (nm := []) (pl := []) (c := code Try.f9) tab_ok mixed Try.func9 (by kernel_rfl) (by kernel_rfl) (by kernel_rfl) ?_
  intro O P Q hO hP hQ
  have hsame : ∀ a, O.neq a a = true := fun a => by rw [← hO]; simp [real]
  obtain ⟨nadd, nsub, nmul, nquo, nrem, nbits, nshl, nshr, nwrap, nmax, nmin, nlt, nle, neq, nnot, nbeq, nband, ni2n, nn2i, ninb, nnadd, nnsub, nnle, nnlt, nneq, nlen, nget, nupd, napp, ntak, ndrp, nspl, nrep, nnth, nmlen, ncut, nemap, nslen, nsidx, nscut, nscat, nseq, nfcmp, ni2f⟩ := O
  replace hsame : ∀ a, nneq a a = true := hsame
  cbv
  repeat' (first | exact hsame _ | refine And.intro ?_ ?_ | (split <;> (rename_i hc; (try rw [hc]); (try cbv))))
  all_goals
    simp only [real, Num.mk.injEq] at hO
    obtain ⟨rfl, rfl, rfl, rfl, rfl, rfl, rfl, rfl, rfl, rfl, rfl, rfl, rfl, rfl, rfl, rfl, rfl, rfl, rfl, rfl, rfl, rfl, rfl, rfl, rfl, rfl, rfl, rfl, rfl, rfl, rfl, rfl, rfl, rfl, rfl, rfl, rfl, rfl, rfl, rfl, rfl, rfl, rfl, rfl⟩ := hO
    subst hQ
    try subst hI
    try subst hμ
    clear hsame
    try dsimp only at *
    try simp only [nc] at *
    try simp only [Int.ofNat_eq_natCast, decide_eq_true_eq, decide_eq_false_iff_not, Bool.and_eq_true, beq_iff_eq, beq_eq_false_iff_ne, ne_eq, Bool.false_eq_true, reduceCtorEq, Nat.add_eq, Nat.sub_eq, Nat.blt_eq, Nat.ble_eq, Nat.zero_add, Nat.add_zero, Bool.not_eq_true', Bool.not_eq_false', fEnt, fRow] at *
  · omega
  · show ((c.accounts.length : Int)).toNat ≤ 3518437208883
    omega
  · refine FQ.frz 1009 rfl ?_ ?_
    rotate_left
    simp only [tupOf, frz, frzs, isIt, eqb_self, cond_true, cond_false, cutSeq, delOb]
    rotate_right
    simp only [tupOf, frzC, frzCs, isIt, eqb_self, cond_true, cond_false, seqLe, real, List.append_nil, List.nil_append, List.mem_cons, List.not_mem_nil, or_false, forall_eq, List.cons_append]
    · simp
    · refine FQ.unl (FQ.wk (Wk.agg (Wks.cons (Wk.refl _) (Wks.cons (Wk.refl _) (Wks.cons (Wk.mlist_els (l := List.replicate c.accounts.length dRow) (enc := eRow) (d := dRow) ?_) (Wks.cons (Wk.nil_mlist 11 true false BEnt eEnt dEnt) Wks.nil))))) (FQ.forget (FQ.done ⟨_, rfl, rfl, rfl⟩)))
      have e : real.tak ((c.accounts.length : Int)).toNat (real.drp 0 (List.replicate ((c.accounts.length : Int)).toNat (AV.agg [.val (.slice none 0 0), .int true .i64 0, .int true .i64 0]))) = List.replicate c.accounts.length (AV.agg [.val (.slice none 0 0), .int true .i64 0, .int true .i64 0]) := by
        simp [real]
      rw [List.map_replicate]
      refine cast (congrArg (fun z => Wks z _) e.symm) (Wks.rep (Wk.agg (Wks.cons (Wk.nil_mlist 1 true false Int eI 0) (unls_wk _))) _)
end Go.Proofs.Ytckkcgkgfkgfdaa.AM
