/- Contracts of the book's functions: fill, ack. -/
import Derived.Test.YtckkcgkgfkgfdaaCD1
set_option linter.unusedVariables false
set_option linter.unusedSimpArgs false
namespace Go.Proofs.Ytckkcgkgfkgfdaa.AM
open Ytckkcgkgfkgfdaa
set_option maxRecDepth 20000
set_option maxHeartbeats 4000000
def bIdx (l : List BEnt) (id : Int) : Option Nat := l.findIdx? (fun x => x.id == id)
theorem idx_spec {l : List BEnt} (hs : l.Pairwise fun x y => x.id < y.id) {b : Int} {k : Nat} {f : Bool} (hk : k ≤ l.length) (h2 : ∀ i, i < k → (l.getD i dEnt).id < b) (h3 : ∀ i, k ≤ i → i < l.length → b ≤ (l.getD i dEnt).id) (h4 : f = true ↔ k < l.length ∧ (l.getD k dEnt).id = b) : bIdx l b = bif f then some k else none := by
  have g : ∀ i (h : i < l.length), l.getD i dEnt = l[i] := fun i h => by rw [List.getD_eq_getElem?_getD, List.getElem?_eq_getElem h]; rfl
  cases f with
  | true =>
    obtain ⟨h5, h6⟩ := h4.1 rfl
    rw [bIdx, cond_true, List.findIdx?_eq_some_iff_getElem]
    refine ⟨h5, by rw [← g k h5, h6]; simp, fun j hj => ?_⟩
    have := h2 j hj
    rw [g j (by omega)] at this
    simp
    omega
  | false =>
    rw [bIdx, cond_false, List.findIdx?_eq_none_iff]
    intro x hx
    obtain ⟨i, hi, rfl⟩ := List.getElem_of_mem hx
    have hne : l[i].id ≠ b := fun e => by
      by_cases hik : i < k
      · have := h2 i hik
        rw [g i hi] at this
        omega
      · have hkl : k < l.length := by omega
        have h5 := h3 k (Nat.le_refl _) hkl
        rw [g k hkl] at h5
        have h6 : l[k].id = b := by
          by_cases e2 : k = i
          · subst e2; exact e
          · have := List.pairwise_iff_getElem.1 hs k i hkl hi (by omega)
            omega
        have := h4.2 ⟨hkl, by rw [g k hkl]; exact h6⟩
        cases this
    simpa using hne
def bDrop (b : Bk) (k : Nat) : Bk := ⟨b.shard, b.came, b.rows, b.opn.take k ++ b.opn.drop (k + 1)⟩
def bSet (b : Bk) (k : Nat) (e : BEnt) : Bk := ⟨b.shard, b.came, b.rows, b.opn.set k e⟩
def eLeft (e : BEnt) (n : Int) : BEnt := ⟨e.id, e.ord, n, e.state, e.epoch⟩
def eState (e : BEnt) (n : Int) : BEnt := ⟨e.id, e.ord, e.left, n, e.epoch⟩
def bFill (b : Bk) (id qty : Int) : Bk × Int :=
  if qty < 1 then (b, 1) else match bIdx b.opn id with
    | none => (b, 15)
    | some k => if (b.opn.getD k dEnt).left < qty then (b, 17) else if IntKind.i64.wrap ((b.opn.getD k dEnt).left - qty) = 0 then (bDrop b k, 0) else (bSet b k (eLeft (b.opn.getD k dEnt) (IntKind.i64.wrap ((b.opn.getD k dEnt).left - qty))), 0)
theorem c28 {P : Program} (hP : Try.prog = P) (b : Bk) (h1 : b.rows.length ≤ 1000000000000) (h2 : b.opn.length ≤ 1000000000000) (h3 : ∀ r ∈ b.rows, r.nums.length ≤ 1000000000000) (hs : b.opn.Pairwise fun x y => x.id < y.id) (id qty : Int) (nx : Nat) : ACalls P 28 [eBk b, .int false .i64 id, .int false .i64 qty] [] nx (fun v o n => ∃ b' c, v = .tup [eBk b', .int false .i64 c] ∧ (b', c) = bFill b id qty ∧ o = []) := by
  obtain ⟨sh, ca, rows, opn⟩ := b
  have h2' : opn.length < 4611686018427387904 := Nat.lt_of_le_of_lt h2 (by decide)
  subst hP
  refine acalls_go (nm := []) (pl := (⟨100009, [], [], []⟩ :: [])) (c := code Try.f28) tab_ok mixed Try.func28 (by kernel_rfl) (by kernel_rfl) (by kernel_rfl) ?_
  intro O P Q hO hP hQ
  have hsame : ∀ a, O.neq a a = true := fun a => by rw [← hO]; simp [real]
  obtain ⟨nadd, nsub, nmul, nquo, nrem, nbits, nshl, nshr, nwrap, nmax, nmin, nlt, nle, neq, nnot, nbeq, nband, ni2n, nn2i, ninb, nnadd, nnsub, nnle, nnlt, nneq, nlen, nget, nupd, napp, ntak, ndrp, nspl, nrep, nnth, nmlen, ncut, nemap, nslen, nsidx, nscut, nscat, nseq, nfcmp, ni2f⟩ := O
  replace hsame : ∀ a, nneq a a = true := hsame
  cbv
  repeat' (first | exact hsame _ | refine And.intro ?_ ?_ | (refine (c31 hP ⟨sh, ca, rows, opn⟩ h2' hs _ _).fr ?_; rintro _ _ _ ⟨k, f, z, rfl, hz, g1, g2, g3, g4, rfl⟩; cbv) | (refine (c26 hP ⟨sh, ca, rows, opn⟩ h1 h2 h3 _).fr ?_; rintro _ _ _ ⟨kr, ke, x, y, rfl, hkr, hke, rfl⟩; cbv) | (split <;> (rename_i hc; (try rw [hc]); (try cbv))))
  any_goals
    obtain ⟨l2, hl2⟩ : ∃ l2, l2 = opn.set k (eLeft (opn.getD k dEnt) (IntKind.i64.wrap ((opn.getD k dEnt).left - qty))) := ⟨_, rfl⟩
    refine CUT.go (Sf.wk _ (TmW.refl _) (ObW.cons (WkO.refl _) (ObW.cons (WkO.refl _) (ObW.cons (WkO.eq (l := l2.map eEnt) (c' := .mlist 11 true true BEnt eEnt dEnt l2) ?_ rfl) (ObW.refl _))))) ?_
    rotate_left
    cbv
    repeat' (first | exact hsame _ | refine And.intro ?_ ?_ | (refine (c51m hP 48005 _ _ ke k (k + 1) _ _ ?_ ?_ ?_ ?_ ?_ ?_ _).frame [48005] ?_; all_goals try (rintro _ _ _ ⟨l', n', rfl, hn', hl', rfl⟩; cbv)) | (split <;> (rename_i hc; (try rw [hc]); (try cbv))))
  all_goals
    simp only [real, Num.mk.injEq] at hO
    obtain ⟨rfl, rfl, rfl, rfl, rfl, rfl, rfl, rfl, rfl, rfl, rfl, rfl, rfl, rfl, rfl, rfl, rfl, rfl, rfl, rfl, rfl, rfl, rfl, rfl, rfl, rfl, rfl, rfl, rfl, rfl, rfl, rfl, rfl, rfl, rfl, rfl, rfl, rfl, rfl, rfl, rfl, rfl, rfl, rfl⟩ := hO
    subst hQ
    try subst hI
    try subst hμ
    clear hsame
    try dsimp only at *
    try simp only [nc] at *
    try simp only [Int.ofNat_eq_natCast, decide_eq_true_eq, decide_eq_false_iff_not, Bool.and_eq_true, beq_iff_eq, beq_eq_false_iff_ne, ne_eq, Bool.false_eq_true, reduceCtorEq, Nat.add_eq, Nat.sub_eq, Nat.blt_eq, Nat.ble_eq, Nat.zero_add, Nat.add_zero, Bool.not_eq_true', Bool.not_eq_false', fEnt, fRow, fNod, fSym] at *
  all_goals have hbi := idx_spec hs g1 g2 g3 g4
  all_goals have hkf : f = true → k < opn.length := fun h => (g4.1 h).1
  all_goals try (have hkk := hkf (by assumption))
  all_goals try (have hl2n : l2.length = opn.length := by rw [hl2]; simp)
  all_goals try (first | omega | decide | (simp only [List.length_cons, List.length_nil, List.length_map, List.length_append, eqb_iff]; omega))
  · refine FQ.unl (FQ.forget (FQ.done ⟨⟨sh, ca, rows, opn⟩, 1, rfl, ?_, rfl⟩))
    rw [bFill, if_pos (by assumption)]
  · have hf : f = false := by assumption
    refine FQ.unl (FQ.forget (FQ.done ⟨⟨sh, ca, rows, opn⟩, 15, rfl, ?_, rfl⟩))
    rw [bFill, if_neg (by assumption), hbi, hf]
    rfl
  · have hf : f = true := by assumption
    subst hz
    refine FQ.unl (FQ.forget (FQ.done ⟨⟨sh, ca, rows, opn⟩, 17, rfl, ?_, rfl⟩))
    rw [bFill, if_neg (by assumption), hbi, hf]
    show _ = if (opn.getD k dEnt).left < qty then _ else _
    rw [if_pos (of_decide_eq_true (by assumption))]
  · rw [wI (by omega) (by omega)]; omega
  · have hf : f = true := by assumption
    have hlt : ¬(opn.getD k dEnt).left < qty := by
      subst hz
      exact of_decide_eq_false (by assumption)
    have h0 : (l2.getD z.toNat dEnt).left = 0 := by assumption
    have hzk : z.toNat = k := by omega
    rw [hzk, hl2, List.getD_eq_getElem?_getD, List.getElem?_set_self hkk] at h0
    replace h0 : IntKind.i64.wrap ((opn.getD k dEnt).left - qty) = 0 := h0
    have e1 : l2.take k = opn.take k := by rw [hl2, List.take_set_of_le (Nat.le_refl _)]
    have e2 : l2.drop (k + 1) = opn.drop (k + 1) := by rw [hl2, List.drop_set_of_lt (Nat.lt_succ_self _)]
    refine FQ.frz 48005 rfl ?_ ?_
    rotate_left
    simp only [tupOf, frz, frzs, isIt, eqb_self, cond_true, cond_false, cutSeq, delOb, show eqb 48005 47005 = false from rfl, show eqb 47005 48005 = false from rfl]
    rotate_right
    simp only [tupOf, frzC, frzCs, isIt, eqb_self, cond_true, cond_false, seqLe, real, List.append_nil, List.nil_append, List.mem_cons, List.not_mem_nil, or_false, forall_eq, List.cons_append, show eqb 48005 47005 = false from rfl, show eqb 47005 48005 = false from rfl]
    · simp [hl', hl2n]; omega
    refine FQ.frz 47005 rfl ?_ ?_
    rotate_left
    simp only [tupOf, frz, frzs, isIt, eqb_self, cond_true, cond_false, cutSeq, delOb, show eqb 47005 48005 = false from rfl, show eqb 48005 47005 = false from rfl]
    rotate_right
    simp only [tupOf, frzC, frzCs, isIt, eqb_self, cond_true, cond_false, seqLe, real, List.append_nil, List.nil_append, List.mem_cons, List.not_mem_nil, or_false, forall_eq, List.cons_append, show eqb 47005 48005 = false from rfl, show eqb 48005 47005 = false from rfl]
    · simp; omega
    refine FQ.unl (FQ.wk (Wk.tup (Wks.cons (Wk.agg (Wks.cons (Wk.refl _) (Wks.cons (Wk.refl _) (Wks.cons (Wk.recode (l' := rows) (enc' := eRow) (d' := dRow) ?_) (Wks.cons (Wk.mlist (l := opn.take k ++ opn.drop (k + 1)) (enc := eEnt) (d := dEnt) ?_ (fun h => h) (fun h => h)) Wks.nil))))) (Wks.refl _))) (FQ.forget (FQ.done ⟨⟨sh, ca, rows, opn.take k ++ opn.drop (k + 1)⟩, 0, rfl, ?_, rfl⟩)))
    · simp [real, hkr]
    · rw [hl', e1, e2]
      show ((((opn.take k ++ opn.drop (k + 1)) ++ List.replicate (k + 1 - k) dEnt).map eEnt).drop 0).take n' = _
      rw [List.drop_zero, ← List.map_take, List.take_left' (by simp; omega)]
    · rw [bFill, if_neg (by assumption), hbi, hf]
      show _ = if (opn.getD k dEnt).left < qty then _ else if _ then _ else _
      rw [if_neg hlt, if_pos h0]
      rfl
  · have hf : f = true := by assumption
    have hlt : ¬(opn.getD k dEnt).left < qty := by
      subst hz
      exact of_decide_eq_false (by assumption)
    have h0 : ¬(l2.getD z.toNat dEnt).left = 0 := by assumption
    have hzk : z.toNat = k := by omega
    rw [hzk, hl2, List.getD_eq_getElem?_getD, List.getElem?_set_self hkk] at h0
    replace h0 : ¬IntKind.i64.wrap ((opn.getD k dEnt).left - qty) = 0 := h0
    refine FQ.frz 48005 rfl ?_ ?_
    rotate_left
    simp only [tupOf, frz, frzs, isIt, eqb_self, cond_true, cond_false, cutSeq, delOb, show eqb 48005 47005 = false from rfl, show eqb 47005 48005 = false from rfl]
    rotate_right
    simp only [tupOf, frzC, frzCs, isIt, eqb_self, cond_true, cond_false, seqLe, real, List.append_nil, List.nil_append, List.mem_cons, List.not_mem_nil, or_false, forall_eq, List.cons_append, show eqb 48005 47005 = false from rfl, show eqb 47005 48005 = false from rfl]
    · simp [hl2n]; omega
    refine FQ.frz 47005 rfl ?_ ?_
    rotate_left
    simp only [tupOf, frz, frzs, isIt, eqb_self, cond_true, cond_false, cutSeq, delOb, show eqb 47005 48005 = false from rfl, show eqb 48005 47005 = false from rfl]
    rotate_right
    simp only [tupOf, frzC, frzCs, isIt, eqb_self, cond_true, cond_false, seqLe, real, List.append_nil, List.nil_append, List.mem_cons, List.not_mem_nil, or_false, forall_eq, List.cons_append, show eqb 47005 48005 = false from rfl, show eqb 48005 47005 = false from rfl]
    · simp; omega
    refine FQ.unl (FQ.wk (Wk.tup (Wks.cons (Wk.agg (Wks.cons (Wk.refl _) (Wks.cons (Wk.refl _) (Wks.cons (Wk.recode (l' := rows) (enc' := eRow) (d' := dRow) ?_) (Wks.cons (Wk.recode (l' := l2) (enc' := eEnt) (d' := dEnt) ?_) Wks.nil))))) (Wks.refl _))) (FQ.forget (FQ.done ⟨⟨sh, ca, rows, l2⟩, 0, rfl, ?_, rfl⟩)))
    · simp [real, hkr]
    · simp only [real, List.drop_zero, Nat.sub_zero, Nat.zero_add, Nat.add_eq]
      rw [List.take_of_length_le (by omega)]
    · rw [bFill, if_neg (by assumption), hbi, hf]
      show _ = if (opn.getD k dEnt).left < qty then _ else if _ then _ else _
      rw [if_neg hlt, if_neg h0, hl2]
      rfl
  · subst hz
    rw [hl2, List.map_set]
    rfl
def bAck (b : Bk) (id : Int) : Bk × Int :=
  match bIdx b.opn id with
    | none => (b, 15)
    | some k => if (b.opn.getD k dEnt).state = 1 then (b, 16) else (bDrop b k, 0)
theorem c29 {P : Program} (hP : Try.prog = P) (b : Bk) (h1 : b.rows.length ≤ 1000000000000) (h2 : b.opn.length ≤ 1000000000000) (h3 : ∀ r ∈ b.rows, r.nums.length ≤ 1000000000000) (hs : b.opn.Pairwise fun x y => x.id < y.id) (id : Int) (nx : Nat) : ACalls P 29 [eBk b, .int false .i64 id] [] nx (fun v o n => ∃ b' c, v = .tup [eBk b', .int false .i64 c] ∧ (b', c) = bAck b id ∧ o = []) := by
  obtain ⟨sh, ca, rows, opn⟩ := b
  have h2' : opn.length < 4611686018427387904 := Nat.lt_of_le_of_lt h2 (by decide)
  subst hP
  refine acalls_go (nm := []) (pl := []) (c := code Try.f29) tab_ok mixed Try.func29 (by kernel_rfl) (by kernel_rfl) (by kernel_rfl) ?_
  intro O P Q hO hP hQ
  have hsame : ∀ a, O.neq a a = true := fun a => by rw [← hO]; simp [real]
  obtain ⟨nadd, nsub, nmul, nquo, nrem, nbits, nshl, nshr, nwrap, nmax, nmin, nlt, nle, neq, nnot, nbeq, nband, ni2n, nn2i, ninb, nnadd, nnsub, nnle, nnlt, nneq, nlen, nget, nupd, napp, ntak, ndrp, nspl, nrep, nnth, nmlen, ncut, nemap, nslen, nsidx, nscut, nscat, nseq, nfcmp, ni2f⟩ := O
  replace hsame : ∀ a, nneq a a = true := hsame
  cbv
  repeat' (first | exact hsame _ | refine And.intro ?_ ?_ | (refine (c31 hP ⟨sh, ca, rows, opn⟩ h2' hs _ _).fr ?_; rintro _ _ _ ⟨k, f, z, rfl, hz, g1, g2, g3, g4, rfl⟩; cbv) | (refine (c26 hP ⟨sh, ca, rows, opn⟩ h1 h2 h3 _).fr ?_; rintro _ _ _ ⟨kr, ke, x, y, rfl, hkr, hke, rfl⟩; cbv) | (refine (c51m hP 48005 _ opn ke k (k + 1) _ _ ?_ ?_ ?_ ?_ ?_ ?_ _).frame [48005] ?_; all_goals try (rintro _ _ _ ⟨l', n', rfl, hn', hl', rfl⟩; cbv)) | (split <;> (rename_i hc; (try rw [hc]); (try cbv))))
  all_goals
    simp only [real, Num.mk.injEq] at hO
    obtain ⟨rfl, rfl, rfl, rfl, rfl, rfl, rfl, rfl, rfl, rfl, rfl, rfl, rfl, rfl, rfl, rfl, rfl, rfl, rfl, rfl, rfl, rfl, rfl, rfl, rfl, rfl, rfl, rfl, rfl, rfl, rfl, rfl, rfl, rfl, rfl, rfl, rfl, rfl, rfl, rfl, rfl, rfl, rfl, rfl⟩ := hO
    subst hQ
    try subst hI
    try subst hμ
    clear hsame
    try dsimp only at *
    try simp only [nc] at *
    try simp only [Int.ofNat_eq_natCast, decide_eq_true_eq, decide_eq_false_iff_not, Bool.and_eq_true, beq_iff_eq, beq_eq_false_iff_ne, ne_eq, Bool.false_eq_true, reduceCtorEq, Nat.add_eq, Nat.sub_eq, Nat.blt_eq, Nat.ble_eq, Nat.zero_add, Nat.add_zero, Bool.not_eq_true', Bool.not_eq_false', fEnt, fRow, fNod, fSym] at *
  all_goals have hbi := idx_spec hs g1 g2 g3 g4
  all_goals have hkf : f = true → k < opn.length := fun h => (g4.1 h).1
  all_goals try (have hkk := hkf (by assumption))
  all_goals try (first | omega | decide | (simp only [List.length_cons, List.length_nil, List.length_map, List.length_append, eqb_iff]; omega))
  · have hf : f = false := by assumption
    refine FQ.unl (FQ.forget (FQ.done ⟨⟨sh, ca, rows, opn⟩, 15, rfl, ?_, rfl⟩))
    rw [bAck, hbi, hf]
    rfl
  · have hf : f = true := by assumption
    subst hz
    refine FQ.unl (FQ.forget (FQ.done ⟨⟨sh, ca, rows, opn⟩, 16, rfl, ?_, rfl⟩))
    rw [bAck, hbi, hf]
    show _ = if (opn.getD k dEnt).state = 1 then _ else _
    rw [if_pos (by assumption)]
  · rw [wI (by omega) (by omega)]; omega
  · have hf : f = true := by assumption
    refine FQ.frz 48005 rfl ?_ ?_
    rotate_left
    simp only [tupOf, frz, frzs, isIt, eqb_self, cond_true, cond_false, cutSeq, delOb, show eqb 48005 47005 = false from rfl, show eqb 47005 48005 = false from rfl]
    rotate_right
    simp only [tupOf, frzC, frzCs, isIt, eqb_self, cond_true, cond_false, seqLe, real, List.append_nil, List.nil_append, List.mem_cons, List.not_mem_nil, or_false, forall_eq, List.cons_append, show eqb 48005 47005 = false from rfl, show eqb 47005 48005 = false from rfl]
    · simp [hl']; omega
    refine FQ.frz 47005 rfl ?_ ?_
    rotate_left
    simp only [tupOf, frz, frzs, isIt, eqb_self, cond_true, cond_false, cutSeq, delOb, show eqb 47005 48005 = false from rfl, show eqb 48005 47005 = false from rfl]
    rotate_right
    simp only [tupOf, frzC, frzCs, isIt, eqb_self, cond_true, cond_false, seqLe, real, List.append_nil, List.nil_append, List.mem_cons, List.not_mem_nil, or_false, forall_eq, List.cons_append, show eqb 47005 48005 = false from rfl, show eqb 48005 47005 = false from rfl]
    · simp; omega
    refine FQ.unl (FQ.wk (Wk.tup (Wks.cons (Wk.agg (Wks.cons (Wk.refl _) (Wks.cons (Wk.refl _) (Wks.cons (Wk.recode (l' := rows) (enc' := eRow) (d' := dRow) ?_) (Wks.cons (Wk.mlist (l := opn.take k ++ opn.drop (k + 1)) (enc := eEnt) (d := dEnt) ?_ (fun h => h) (fun h => h)) Wks.nil))))) (Wks.refl _))) (FQ.forget (FQ.done ⟨⟨sh, ca, rows, opn.take k ++ opn.drop (k + 1)⟩, 0, rfl, ?_, rfl⟩)))
    · simp [real, hkr]
    · rw [hl']
      show ((((opn.take k ++ opn.drop (k + 1)) ++ List.replicate (k + 1 - k) dEnt).map eEnt).drop 0).take n' = _
      rw [List.drop_zero, ← List.map_take, List.take_left' (by simp; omega)]
    · rw [bAck, hbi, hf]
      subst hz
      show _ = if (opn.getD k dEnt).state = 1 then _ else _
      rw [if_neg (by assumption)]
      rfl
end Go.Proofs.Ytckkcgkgfkgfdaa.AM
