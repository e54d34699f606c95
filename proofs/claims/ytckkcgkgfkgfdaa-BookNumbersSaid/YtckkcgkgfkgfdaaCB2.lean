/- Contracts of the book's functions: copies. -/
import Derived.Test.YtckkcgkgfkgfdaaD0
set_option linter.unusedVariables false
set_option linter.unusedSimpArgs false
namespace Go.Proofs.Ytckkcgkgfkgfdaa.AM
open Ytckkcgkgfkgfdaa
set_option maxRecDepth 20000
theorem c49 {P : Program} (hP : Try.prog = P) (gd fu : Bool) (α : Type) (enc : α → AV) (d : α) (l : List α) (hl : l.length ≤ 1000000000000) (nx : Nat) : ACalls P 49 [.mlist 1 gd fu α enc d l] [] nx (fun v o n => ∃ k, v = .own 49005 nx.succ 1 0 k ∧ k = l.length ∧ o = [⟨49005, nx.succ, .row 2 1 (.mlist 1 true true α enc d l)⟩]) := by
  subst hP
  refine acalls_go (nm := [(5, 49005)]) (pl := []) (c := code Try.f49) tab_ok mixed Try.func49 (by kernel_rfl) (by kernel_rfl) (by kernel_rfl) ?_
  intro O P Q hO hP hQ
  have hsame : ∀ a, O.neq a a = true := fun a => by rw [← hO]; simp [real]
  obtain ⟨nadd, nsub, nmul, nquo, nrem, nbits, nshl, nshr, nwrap, nmax, nmin, nlt, nle, neq, nnot, nbeq, nband, ni2n, nn2i, ninb, nnadd, nnsub, nnle, nnlt, nneq, nlen, nget, nupd, napp, ntak, ndrp, nspl, nrep, nnth, nmlen, ncut, nemap, nslen, nsidx, nscut, nscat, nseq, nfcmp, ni2f⟩ := O
  replace hsame : ∀ a, nneq a a = true := hsame
  cbv
  repeat' (first | exact hsame _ | refine And.intro ?_ ?_ | (split <;> (rename_i hc; (try rw [hc]); (try cbv))))
  all_goals
    simp only [real, Num.mk.injEq] at hO
    obtain ⟨rfl, rfl, rfl, rfl, rfl, rfl, rfl, rfl, rfl, rfl, rfl, rfl, rfl, rfl, rfl, rfl, rfl, rfl, rfl, rfl, rfl, rfl, rfl, rfl, rfl, rfl, rfl, rfl, rfl, rfl, rfl, rfl, rfl, rfl, rfl, rfl, rfl, rfl, rfl, rfl, rfl, rfl, rfl, rfl⟩ := hO
    subst hQ
    try subst hI
    try subst hμ
    clear hsame
    try dsimp only at *
    try simp only [nc] at *
    try simp only [Int.ofNat_eq_natCast, decide_eq_true_eq, decide_eq_false_iff_not, Bool.and_eq_true, beq_iff_eq, beq_eq_false_iff_ne, ne_eq, Bool.false_eq_true, reduceCtorEq, Nat.add_eq, Nat.sub_eq, Nat.blt_eq, Nat.ble_eq, Nat.zero_add, Nat.add_zero, Bool.not_eq_true', Bool.not_eq_false', fEnt, fRow] at *
  · cases l with
    | nil => exact .inr (FQ.by_ ((Fin.later _ _ (Nat.le_succ _)).trans (Fin.virt _ _ 49005 1 2 _)) (FQ.done ⟨0, rfl, rfl, rfl⟩))
    | cons x l => exact .inl (by simp)
  all_goals try (first | exact Nat.le_trans hl (by decide) | (simp only [Nat.zero_add]; exact Nat.le_trans hl (by decide)) | (simp; done))
  · refine FQ.objs (ObW.cons (WkO.eq (l := l.map enc) (c' := .mlist 1 true true α enc d l) ?_ ?_) .nil) (FQ.done ⟨l.length, ?_, rfl, rfl⟩) <;> simp [seqList, real, tupOf]
theorem c49h {P : Program} (hP : Try.prog = P) (gd fu : Bool) (α : Type) (enc : α → AV) (d : α) (l : List α) (hl : l.length ≤ 1000000000000) (nx : Nat) : ACalls P 49 [.mlist 1 gd fu α enc d l] [] nx (fun v o n => v = .mlist 1 true false α enc d l ∧ o = []) := by
  refine (c49 hP gd fu α enc d l hl nx).fin ?_
  rintro _ _ n ⟨k, rfl, rfl, rfl⟩
  refine ⟨_, _, _, Fin.freeze (ix := 49005) rfl ?_ n, ?_, ?_⟩
  · simp [frzC, isIt, seqLe, real]
  · simp [frz, isIt, cutSeq, real]
  · simp [delOb]
theorem c48 {P : Program} (hP : Try.prog = P) (gd fu : Bool) (α : Type) (enc : α → AV) (d : α) (l : List α) (hl : l.length ≤ 1000000000000) (nx : Nat) : ACalls P 48 [.mlist 11 gd fu α enc d l] [] nx (fun v o n => ∃ k, v = .own 48005 nx.succ 11 0 k ∧ k = l.length ∧ o = [⟨48005, nx.succ, .row 54 11 (.mlist 11 true true α enc d l)⟩]) := by
  subst hP
  refine acalls_go (nm := [(5, 48005)]) (pl := []) (c := code Try.f48) tab_ok mixed Try.func48 (by kernel_rfl) (by kernel_rfl) (by kernel_rfl) ?_
  intro O P Q hO hP hQ
  have hsame : ∀ a, O.neq a a = true := fun a => by rw [← hO]; simp [real]
  obtain ⟨nadd, nsub, nmul, nquo, nrem, nbits, nshl, nshr, nwrap, nmax, nmin, nlt, nle, neq, nnot, nbeq, nband, ni2n, nn2i, ninb, nnadd, nnsub, nnle, nnlt, nneq, nlen, nget, nupd, napp, ntak, ndrp, nspl, nrep, nnth, nmlen, ncut, nemap, nslen, nsidx, nscut, nscat, nseq, nfcmp, ni2f⟩ := O
  replace hsame : ∀ a, nneq a a = true := hsame
  cbv
  repeat' (first | exact hsame _ | refine And.intro ?_ ?_ | (split <;> (rename_i hc; (try rw [hc]); (try cbv))))
  all_goals
    simp only [real, Num.mk.injEq] at hO
    obtain ⟨rfl, rfl, rfl, rfl, rfl, rfl, rfl, rfl, rfl, rfl, rfl, rfl, rfl, rfl, rfl, rfl, rfl, rfl, rfl, rfl, rfl, rfl, rfl, rfl, rfl, rfl, rfl, rfl, rfl, rfl, rfl, rfl, rfl, rfl, rfl, rfl, rfl, rfl, rfl, rfl, rfl, rfl, rfl, rfl⟩ := hO
    subst hQ
    try subst hI
    try subst hμ
    clear hsame
    try dsimp only at *
    try simp only [nc] at *
    try simp only [Int.ofNat_eq_natCast, decide_eq_true_eq, decide_eq_false_iff_not, Bool.and_eq_true, beq_iff_eq, beq_eq_false_iff_ne, ne_eq, Bool.false_eq_true, reduceCtorEq, Nat.add_eq, Nat.sub_eq, Nat.blt_eq, Nat.ble_eq, Nat.zero_add, Nat.add_zero, Bool.not_eq_true', Bool.not_eq_false', fEnt, fRow] at *
  · cases l with
    | nil => exact .inr (FQ.by_ ((Fin.later _ _ (Nat.le_succ _)).trans (Fin.virt _ _ 48005 11 54 _)) (FQ.done ⟨0, rfl, rfl, rfl⟩))
    | cons x l => exact .inl (by simp)
  all_goals try (first | exact Nat.le_trans hl (by decide) | (simp only [Nat.zero_add]; exact Nat.le_trans hl (by decide)) | (simp; done))
  · refine FQ.objs (ObW.cons (WkO.eq (l := l.map enc) (c' := .mlist 11 true true α enc d l) ?_ ?_) .nil) (FQ.done ⟨l.length, ?_, rfl, rfl⟩) <;> simp [seqList, real, tupOf]
theorem c48h {P : Program} (hP : Try.prog = P) (gd fu : Bool) (α : Type) (enc : α → AV) (d : α) (l : List α) (hl : l.length ≤ 1000000000000) (nx : Nat) : ACalls P 48 [.mlist 11 gd fu α enc d l] [] nx (fun v o n => v = .mlist 11 true false α enc d l ∧ o = []) := by
  refine (c48 hP gd fu α enc d l hl nx).fin ?_
  rintro _ _ n ⟨k, rfl, rfl, rfl⟩
  refine ⟨_, _, _, Fin.freeze (ix := 48005) rfl ?_ n, ?_, ?_⟩
  · simp [frzC, isIt, seqLe, real]
  · simp [frz, isIt, cutSeq, real]
  · simp [delOb]
theorem c47 {P : Program} (hP : Try.prog = P) (gd fu : Bool) (α : Type) (enc : α → AV) (d : α) (l : List α) (hl : l.length ≤ 1000000000000) (nx : Nat) : ACalls P 47 [.mlist 3 gd fu α enc d l] [] nx (fun v o n => ∃ k, v = .own 47005 nx.succ 3 0 k ∧ k = l.length ∧ o = [⟨47005, nx.succ, .row 91 3 (.mlist 3 true true α enc d l)⟩]) := by
  subst hP
  refine acalls_go (nm := [(5, 47005)]) (pl := []) (c := code Try.f47) tab_ok mixed Try.func47 (by kernel_rfl) (by kernel_rfl) (by kernel_rfl) ?_
  intro O P Q hO hP hQ
  have hsame : ∀ a, O.neq a a = true := fun a => by rw [← hO]; simp [real]
  obtain ⟨nadd, nsub, nmul, nquo, nrem, nbits, nshl, nshr, nwrap, nmax, nmin, nlt, nle, neq, nnot, nbeq, nband, ni2n, nn2i, ninb, nnadd, nnsub, nnle, nnlt, nneq, nlen, nget, nupd, napp, ntak, ndrp, nspl, nrep, nnth, nmlen, ncut, nemap, nslen, nsidx, nscut, nscat, nseq, nfcmp, ni2f⟩ := O
  replace hsame : ∀ a, nneq a a = true := hsame
  cbv
  repeat' (first | exact hsame _ | refine And.intro ?_ ?_ | (split <;> (rename_i hc; (try rw [hc]); (try cbv))))
  all_goals
    simp only [real, Num.mk.injEq] at hO
    obtain ⟨rfl, rfl, rfl, rfl, rfl, rfl, rfl, rfl, rfl, rfl, rfl, rfl, rfl, rfl, rfl, rfl, rfl, rfl, rfl, rfl, rfl, rfl, rfl, rfl, rfl, rfl, rfl, rfl, rfl, rfl, rfl, rfl, rfl, rfl, rfl, rfl, rfl, rfl, rfl, rfl, rfl, rfl, rfl, rfl⟩ := hO
    subst hQ
    try subst hI
    try subst hμ
    clear hsame
    try dsimp only at *
    try simp only [nc] at *
    try simp only [Int.ofNat_eq_natCast, decide_eq_true_eq, decide_eq_false_iff_not, Bool.and_eq_true, beq_iff_eq, beq_eq_false_iff_ne, ne_eq, Bool.false_eq_true, reduceCtorEq, Nat.add_eq, Nat.sub_eq, Nat.blt_eq, Nat.ble_eq, Nat.zero_add, Nat.add_zero, Bool.not_eq_true', Bool.not_eq_false', fEnt, fRow] at *
  · cases l with
    | nil => exact .inr (FQ.by_ ((Fin.later _ _ (Nat.le_succ _)).trans (Fin.virt _ _ 47005 3 91 _)) (FQ.done ⟨0, rfl, rfl, rfl⟩))
    | cons x l => exact .inl (by simp)
  all_goals try (first | exact Nat.le_trans hl (by decide) | (simp only [Nat.zero_add]; exact Nat.le_trans hl (by decide)) | (simp; done))
  · refine FQ.objs (ObW.cons (WkO.eq (l := l.map enc) (c' := .mlist 3 true true α enc d l) ?_ ?_) .nil) (FQ.done ⟨l.length, ?_, rfl, rfl⟩) <;> simp [seqList, real, tupOf]
theorem c47h {P : Program} (hP : Try.prog = P) (gd fu : Bool) (α : Type) (enc : α → AV) (d : α) (l : List α) (hl : l.length ≤ 1000000000000) (nx : Nat) : ACalls P 47 [.mlist 3 gd fu α enc d l] [] nx (fun v o n => v = .mlist 3 true false α enc d l ∧ o = []) := by
  refine (c47 hP gd fu α enc d l hl nx).fin ?_
  rintro _ _ n ⟨k, rfl, rfl, rfl⟩
  refine ⟨_, _, _, Fin.freeze (ix := 47005) rfl ?_ n, ?_, ?_⟩
  · simp [frzC, isIt, seqLe, real]
  · simp [frz, isIt, cutSeq, real]
  · simp [delOb]
theorem c26 {P : Program} (hP : Try.prog = P) (b : Bk) (h1 : b.rows.length ≤ 1000000000000) (h2 : b.opn.length ≤ 1000000000000) (h3 : ∀ r ∈ b.rows, r.nums.length ≤ 1000000000000) (nx : Nat) : ACalls P 26 [eBk b] [] nx (fun v o n => ∃ kr ke x y, v = .agg [.int false .i64 b.shard, .int false .i64 b.came, .own 47005 x 3 0 kr, .own 48005 y 11 0 ke] ∧ kr = b.rows.length ∧ ke = b.opn.length ∧ o = [⟨47005, x, .row 91 3 (.mlist 3 true true BRow eRow dRow b.rows)⟩, ⟨48005, y, .row 54 11 (.mlist 11 true true BEnt eEnt dEnt b.opn)⟩]) := by
  subst hP
  refine acalls_go (nm := []) (pl := pl26) (c := code Try.f26) tab_ok mixed Try.func26 (by kernel_rfl) (by kernel_rfl) (by exact pl26_ok) ?_
  intro O P Q hO hP hQ
  have hsame : ∀ a, O.neq a a = true := fun a => by rw [← hO]; simp [real]
  obtain ⟨nadd, nsub, nmul, nquo, nrem, nbits, nshl, nshr, nwrap, nmax, nmin, nlt, nle, neq, nnot, nbeq, nband, ni2n, nn2i, ninb, nnadd, nnsub, nnle, nnlt, nneq, nlen, nget, nupd, napp, ntak, ndrp, nspl, nrep, nnth, nmlen, ncut, nemap, nslen, nsidx, nscut, nscat, nseq, nfcmp, ni2f⟩ := O
  replace hsame : ∀ a, nneq a a = true := hsame
  cbv
  repeat' (first | exact hsame _ | refine And.intro ?_ ?_ | (refine (c47 hP _ _ _ _ _ _ h1 _).fr ?_; rintro _ _ _ ⟨kr, rfl, hkr, rfl⟩; cbv) | (refine (c48 hP _ _ _ _ _ _ h2 _).fr ?_; rintro _ _ _ ⟨ke, rfl, hke, rfl⟩; cbv) | (split <;> (rename_i hc; (try rw [hc]); (try cbv))))
  try clear hI I
  try clear hμ μ
  obtain ⟨I, hI⟩ : ∃ I : St → Prop, I = (fun s => ∃ (i m : Int) (n x y x1 x2 : Nat), s = ⟨[(1, .ptr 1001 x1 0), (2, .ptr 1002 x2 0), (14, .int false .i64 m), (15, .int false .i64 i)], [⟨1001, x1, .box 44 [.int false .i64 b.shard, .int false .i64 b.came, .own 47005 x 3 0 kr, .own 48005 y 11 0 ke]⟩, ⟨1002, x2, .box 44 [.int true .i64 0, .int true .i64 0, .val (.slice none 0 0), .val (.slice none 0 0)]⟩, ⟨47005, x, .row 91 3 (.mlist 3 true true BRow eRow dRow b.rows)⟩, ⟨48005, y, .row 54 11 (.mlist 11 true true BEnt eEnt dEnt b.opn)⟩], n⟩ ∧ m = kr ∧ 0 ≤ i) := ⟨_, rfl⟩
  obtain ⟨μ, hμ⟩ : ∃ μ : St → Nat, μ = (fun s => match s.tm with | _ :: _ :: (_, .int _ _ m) :: (_, .int _ _ i) :: _ => (m - i).toNat | _ => 0) := ⟨_, rfl⟩
  refine ⟨[1, 2, 14, 15], [1001, 1002, 47005, 48005], I, μ, ?_, ?_⟩
  · cbv
    simp only [real, Num.mk.injEq] at hO
    obtain ⟨rfl, rfl, rfl, rfl, rfl, rfl, rfl, rfl, rfl, rfl, rfl, rfl, rfl, rfl, rfl, rfl, rfl, rfl, rfl, rfl, rfl, rfl, rfl, rfl, rfl, rfl, rfl, rfl, rfl, rfl, rfl, rfl, rfl, rfl, rfl, rfl, rfl, rfl, rfl, rfl, rfl, rfl, rfl, rfl⟩ := hO
    subst hQ
    try subst hI
    try subst hμ
    clear hsame
    try dsimp only at *
    try simp only [nc] at *
    try simp only [Int.ofNat_eq_natCast, decide_eq_true_eq, decide_eq_false_iff_not, Bool.and_eq_true, beq_iff_eq, beq_eq_false_iff_ne, ne_eq, Bool.false_eq_true, reduceCtorEq, Nat.add_eq, Nat.sub_eq, Nat.blt_eq, Nat.ble_eq, Nat.zero_add, Nat.add_zero, Bool.not_eq_true', Bool.not_eq_false', fEnt, fRow] at *
    exact WI.now ⟨_, _, _, _, _, _, _, rfl, rfl, Int.le_refl _⟩
  · intro s₀ h₀
    rw [hI] at h₀
    obtain ⟨i, m, n, x, y, x1, x2, rfl, hm, h0⟩ := h₀
    cbv
    repeat' (first | exact hsame _ | refine And.intro ?_ ?_ | (refine (c49h hP _ _ _ _ _ _ ?_ _).fr ?_; all_goals try (rintro _ _ _ ⟨rfl, rfl⟩; cbv)) | (split <;> (rename_i hc; (try rw [hc]); (try cbv))))
    all_goals
      simp only [real, Num.mk.injEq] at hO
      obtain ⟨rfl, rfl, rfl, rfl, rfl, rfl, rfl, rfl, rfl, rfl, rfl, rfl, rfl, rfl, rfl, rfl, rfl, rfl, rfl, rfl, rfl, rfl, rfl, rfl, rfl, rfl, rfl, rfl, rfl, rfl, rfl, rfl, rfl, rfl, rfl, rfl, rfl, rfl, rfl, rfl, rfl, rfl, rfl, rfl⟩ := hO
      subst hQ
      try subst hI
      try subst hμ
      clear hsame
      try dsimp only at *
      try simp only [nc] at *
      try simp only [Int.ofNat_eq_natCast, decide_eq_true_eq, decide_eq_false_iff_not, Bool.and_eq_true, beq_iff_eq, beq_eq_false_iff_ne, ne_eq, Bool.false_eq_true, reduceCtorEq, Nat.add_eq, Nat.sub_eq, Nat.blt_eq, Nat.ble_eq, Nat.zero_add, Nat.add_zero, Bool.not_eq_true', Bool.not_eq_false', fEnt, fRow] at *
    · omega
    · show i.toNat < b.rows.length
      omega
    · exact getD_all (p := fun r : BRow => r.nums.length ≤ 1000000000000) h3 (by decide) _
    · omega
    · show i.toNat < b.rows.length
      omega
    · have hi : i.toNat < b.rows.length := by omega
      refine WD.sf (Sf.wk _ (TmW.refl _) (ObW.cons (WkO.refl _) (ObW.cons (WkO.refl _) (ObW.cons (WkO.eq (l := b.rows.map eRow) ?_ rfl) (ObW.refl _))))) (WD.now ⟨_, _, _, _, _, _, _, rfl, hm, ?_⟩ ?_)
      · show some ((b.rows.map eRow).set i.toNat (eRow (b.rows.getD i.toNat dRow))) = _
        rw [← List.map_set, set_getD _ _ _ hi]
      · rw [wI (by omega) (by omega)]; omega
      · show (m - IntKind.i64.wrap (i + 1)).toNat < (m - i).toNat
        rw [wI (by omega) (by omega)]; omega
    · exact FQ.keep [47005, 48005] (FQ.done ⟨_, _, _, _, rfl, hkr, hke, rfl⟩)
end Go.Proofs.Ytckkcgkgfkgfdaa.AM
