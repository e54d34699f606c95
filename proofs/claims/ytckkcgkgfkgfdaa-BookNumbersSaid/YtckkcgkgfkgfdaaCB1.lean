/- Contracts of the book's functions: search, look. -/
import Derived.Test.YtckkcgkgfkgfdaaD0
set_option linter.unusedVariables false
set_option linter.unusedSimpArgs false
namespace Go.Proofs.Ytckkcgkgfkgfdaa.AM
open Ytckkcgkgfkgfdaa
set_option maxRecDepth 20000
theorem c72 {P : Program} (hP : Try.prog = P) (a : Int) (nx : Nat) : ACalls P 72 [.int false .i64 a] [] nx (fun v o n => v = .bool false ∧ o = []) := by
  subst hP
  refine acalls_go (nm := []) (pl := []) (c := code Try.f72) tab_ok mixed Try.func72 (by kernel_rfl) (by kernel_rfl) (by kernel_rfl) ?_
  intro O P Q hO hP hQ
  have hsame : ∀ a, O.neq a a = true := fun a => by rw [← hO]; simp [real]
  obtain ⟨nadd, nsub, nmul, nquo, nrem, nbits, nshl, nshr, nwrap, nmax, nmin, nlt, nle, neq, nnot, nbeq, nband, ni2n, nn2i, ninb, nnadd, nnsub, nnle, nnlt, nneq, nlen, nget, nupd, napp, ntak, ndrp, nspl, nrep, nnth, nmlen, ncut, nemap, nslen, nsidx, nscut, nscat, nseq, nfcmp, ni2f⟩ := O
  replace hsame : ∀ a, nneq a a = true := hsame
  cbv
  simp only [real, Num.mk.injEq] at hO
  obtain ⟨rfl, rfl, rfl, rfl, rfl, rfl, rfl, rfl, rfl, rfl, rfl, rfl, rfl, rfl, rfl, rfl, rfl, rfl, rfl, rfl, rfl, rfl, rfl, rfl, rfl, rfl, rfl, rfl, rfl, rfl, rfl, rfl, rfl, rfl, rfl, rfl, rfl, rfl, rfl, rfl, rfl, rfl, rfl, rfl⟩ := hO
  subst hQ
  try subst hI
  try subst hμ
  clear hsame
  try dsimp only at *
  try simp only [nc] at *
  try simp only [Int.ofNat_eq_natCast, decide_eq_true_eq, decide_eq_false_iff_not, Bool.and_eq_true, beq_iff_eq, beq_eq_false_iff_ne, ne_eq, Bool.false_eq_true, reduceCtorEq, Nat.add_eq, Nat.sub_eq, Nat.blt_eq, Nat.ble_eq, Nat.zero_add, Nat.add_zero, Bool.not_eq_true', Bool.not_eq_false', fEnt, fRow] at *
  exact FQ.done ⟨by simp [tupOf], rfl⟩
theorem c54 {P : Program} (hP : Try.prog = P) (a b : Int) (nx : Nat) : ACalls P 54 [.int false .i64 a, .int false .i64 b] [] nx (fun v o n => ∃ x, v = .int false .i64 x ∧ (x < 0 ↔ a < b) ∧ (x = 0 ↔ a = b) ∧ o = []) := by
  subst hP
  refine acalls_go (nm := []) (pl := []) (c := code Try.f54) tab_ok mixed Try.func54 (by kernel_rfl) (by kernel_rfl) (by kernel_rfl) ?_
  intro O P Q hO hP hQ
  have hsame : ∀ a, O.neq a a = true := fun a => by rw [← hO]; simp [real]
  obtain ⟨nadd, nsub, nmul, nquo, nrem, nbits, nshl, nshr, nwrap, nmax, nmin, nlt, nle, neq, nnot, nbeq, nband, ni2n, nn2i, ninb, nnadd, nnsub, nnle, nnlt, nneq, nlen, nget, nupd, napp, ntak, ndrp, nspl, nrep, nnth, nmlen, ncut, nemap, nslen, nsidx, nscut, nscat, nseq, nfcmp, ni2f⟩ := O
  replace hsame : ∀ a, nneq a a = true := hsame
  cbv
  repeat' (first | exact hsame _ | refine And.intro ?_ ?_ | (refine (c72 hP _ _).fr ?_; rintro _ _ _ ⟨rfl, rfl⟩; cbv) | (split <;> (rename_i hc; (try rw [hc]); (try cbv))))
  all_goals
    simp only [real, Num.mk.injEq] at hO
    obtain ⟨rfl, rfl, rfl, rfl, rfl, rfl, rfl, rfl, rfl, rfl, rfl, rfl, rfl, rfl, rfl, rfl, rfl, rfl, rfl, rfl, rfl, rfl, rfl, rfl, rfl, rfl, rfl, rfl, rfl, rfl, rfl, rfl, rfl, rfl, rfl, rfl, rfl, rfl, rfl, rfl, rfl, rfl, rfl, rfl⟩ := hO
    subst hQ
    try subst hI
    try subst hμ
    clear hsame
    try dsimp only at *
    try simp only [nc] at *
    try simp only [Int.ofNat_eq_natCast, decide_eq_true_eq, decide_eq_false_iff_not, Bool.and_eq_true, beq_iff_eq, beq_eq_false_iff_ne, ne_eq, Bool.false_eq_true, reduceCtorEq, Nat.add_eq, Nat.sub_eq, Nat.blt_eq, Nat.ble_eq, Nat.zero_add, Nat.add_zero, Bool.not_eq_true', Bool.not_eq_false', fEnt, fRow] at *
  all_goals refine FQ.unl (FQ.done ⟨_, rfl, ?_, ?_, rfl⟩) <;> omega
theorem c53 {P : Program} (hP : Try.prog = P) (e : BEnt) (b : Int) (nx : Nat) : ACalls P 53 [eEnt e, .int false .i64 b] [] nx (fun v o n => ∃ x, v = .int false .i64 x ∧ (x < 0 ↔ e.id < b) ∧ (x = 0 ↔ e.id = b) ∧ o = []) := by
  subst hP
  refine acalls_go (nm := []) (pl := []) (c := code Try.f53) tab_ok mixed Try.func53 (by kernel_rfl) (by kernel_rfl) (by kernel_rfl) ?_
  intro O P Q hO hP hQ
  have hsame : ∀ a, O.neq a a = true := fun a => by rw [← hO]; simp [real]
  obtain ⟨nadd, nsub, nmul, nquo, nrem, nbits, nshl, nshr, nwrap, nmax, nmin, nlt, nle, neq, nnot, nbeq, nband, ni2n, nn2i, ninb, nnadd, nnsub, nnle, nnlt, nneq, nlen, nget, nupd, napp, ntak, ndrp, nspl, nrep, nnth, nmlen, ncut, nemap, nslen, nsidx, nscut, nscat, nseq, nfcmp, ni2f⟩ := O
  replace hsame : ∀ a, nneq a a = true := hsame
  cbv
  repeat' (first | exact hsame _ | refine And.intro ?_ ?_ | (refine (c54 hP _ _ _).fr ?_; rintro _ _ _ ⟨x, rfl, hx, hx', rfl⟩; cbv) | (split <;> (rename_i hc; (try rw [hc]); (try cbv))))
  simp only [real, Num.mk.injEq] at hO
  obtain ⟨rfl, rfl, rfl, rfl, rfl, rfl, rfl, rfl, rfl, rfl, rfl, rfl, rfl, rfl, rfl, rfl, rfl, rfl, rfl, rfl, rfl, rfl, rfl, rfl, rfl, rfl, rfl, rfl, rfl, rfl, rfl, rfl, rfl, rfl, rfl, rfl, rfl, rfl, rfl, rfl, rfl, rfl, rfl, rfl⟩ := hO
  subst hQ
  try subst hI
  try subst hμ
  clear hsame
  try dsimp only at *
  try simp only [nc] at *
  try simp only [Int.ofNat_eq_natCast, decide_eq_true_eq, decide_eq_false_iff_not, Bool.and_eq_true, beq_iff_eq, beq_eq_false_iff_ne, ne_eq, Bool.false_eq_true, reduceCtorEq, Nat.add_eq, Nat.sub_eq, Nat.blt_eq, Nat.ble_eq, Nat.zero_add, Nat.add_zero, Bool.not_eq_true', Bool.not_eq_false', fEnt, fRow] at *
  exact FQ.unl (FQ.forget (FQ.done ⟨_, rfl, hx, hx', rfl⟩))
theorem c52 {P : Program} (hP : Try.prog = P) (l : List BEnt) (hl : l.length < 4611686018427387904) (hs : l.Pairwise fun x y => x.id < y.id) (b : Int) (nx : Nat) : ACalls P 52 [.mlist 11 true false BEnt eEnt dEnt l, .int false .i64 b, .fn (.func 53) []] [] nx (fun v o n => ∃ (k : Nat) (f : Bool) (z : Int), v = .tup [.int false .i64 z, .bool f] ∧ z = k ∧ k ≤ l.length ∧ (∀ i, i < k → (l.getD i dEnt).id < b) ∧ (∀ i, k ≤ i → i < l.length → b ≤ (l.getD i dEnt).id) ∧ (f = true ↔ k < l.length ∧ (l.getD k dEnt).id = b) ∧ o = []) := by
  have hmon : ∀ i j, i < j → j < l.length → (l.getD i dEnt).id < (l.getD j dEnt).id := fun i j hij hj => by
    have := List.pairwise_iff_getElem.1 hs i j (by omega) hj hij
    simpa [List.getD_eq_getElem?_getD, List.getElem?_eq_getElem hj, List.getElem?_eq_getElem (show i < l.length by omega)] using this
  subst hP
  refine acalls_go (nm := []) (pl := []) (c := code Try.f52) tab_ok mixed Try.func52 (by kernel_rfl) (by kernel_rfl) (by kernel_rfl) ?_
  intro O P Q hO hP hQ
  have hsame : ∀ a, O.neq a a = true := fun a => by rw [← hO]; simp [real]
  obtain ⟨nadd, nsub, nmul, nquo, nrem, nbits, nshl, nshr, nwrap, nmax, nmin, nlt, nle, neq, nnot, nbeq, nband, ni2n, nn2i, ninb, nnadd, nnsub, nnle, nnlt, nneq, nlen, nget, nupd, napp, ntak, ndrp, nspl, nrep, nnth, nmlen, ncut, nemap, nslen, nsidx, nscut, nscat, nseq, nfcmp, ni2f⟩ := O
  replace hsame : ∀ a, nneq a a = true := hsame
  cbv
  try clear hI I
  try clear hμ μ
  obtain ⟨I, hI⟩ : ∃ I : St → Prop, I = (fun s => ∃ (i j m : Int) (n : Nat), s = ⟨[(9, .int false .i64 i), (10, .int false .i64 j), (0, .mlist 11 true false BEnt eEnt dEnt l), (1, .int false .i64 b), (2, .fn (.func 53) []), (8, .int false .i64 m)], [], n⟩ ∧ m = l.length ∧ 0 ≤ i ∧ i ≤ j ∧ j ≤ m ∧ (∀ t : Nat, (t : Int) < i → (l.getD t dEnt).id < b) ∧ (∀ t : Nat, j ≤ (t : Int) → t < l.length → b ≤ (l.getD t dEnt).id)) := ⟨_, rfl⟩
  obtain ⟨μ, hμ⟩ : ∃ μ : St → Nat, μ = (fun s => match s.tm with | (_, .int _ _ i) :: (_, .int _ _ j) :: _ => (j - i).toNat | _ => 0) := ⟨_, rfl⟩
  refine ⟨[9, 10, 0, 1, 2, 8], [], I, μ, ?_, ?_⟩
  · cbv
    simp only [real, Num.mk.injEq] at hO
    obtain ⟨rfl, rfl, rfl, rfl, rfl, rfl, rfl, rfl, rfl, rfl, rfl, rfl, rfl, rfl, rfl, rfl, rfl, rfl, rfl, rfl, rfl, rfl, rfl, rfl, rfl, rfl, rfl, rfl, rfl, rfl, rfl, rfl, rfl, rfl, rfl, rfl, rfl, rfl, rfl, rfl, rfl, rfl, rfl, rfl⟩ := hO
    subst hQ
    try subst hI
    try subst hμ
    clear hsame
    try dsimp only at *
    try simp only [nc] at *
    try simp only [Int.ofNat_eq_natCast, decide_eq_true_eq, decide_eq_false_iff_not, Bool.and_eq_true, beq_iff_eq, beq_eq_false_iff_ne, ne_eq, Bool.false_eq_true, reduceCtorEq, Nat.add_eq, Nat.sub_eq, Nat.blt_eq, Nat.ble_eq, Nat.zero_add, Nat.add_zero, Bool.not_eq_true', Bool.not_eq_false', fEnt, fRow] at *
    exact WI.now ⟨_, _, _, _, rfl, rfl, Int.le_refl _, by omega, Int.le_refl _, fun t ht => by omega, fun t h1 h2 => by omega⟩
  · intro s₀ h₀
    rw [hI] at h₀
    obtain ⟨i, j, m, n, rfl, hm, h0, h1, h2, h3, h4⟩ := h₀
    have hmid := mid_eq h0 h1 (show j < 4611686018427387904 by omega)
    cbv
    repeat' (first | exact hsame _ | refine And.intro ?_ ?_ | (refine (c53 hP _ _ _).fr ?_; rintro _ _ _ ⟨x, rfl, hx, hx', rfl⟩; cbv) | (split <;> (rename_i hc; (try rw [hc]); (try cbv))))
    all_goals
      simp only [real, Num.mk.injEq] at hO
      obtain ⟨rfl, rfl, rfl, rfl, rfl, rfl, rfl, rfl, rfl, rfl, rfl, rfl, rfl, rfl, rfl, rfl, rfl, rfl, rfl, rfl, rfl, rfl, rfl, rfl, rfl, rfl, rfl, rfl, rfl, rfl, rfl, rfl, rfl, rfl, rfl, rfl, rfl, rfl, rfl, rfl, rfl, rfl, rfl, rfl⟩ := hO
      subst hQ
      try subst hI
      try subst hμ
      clear hsame
      try dsimp only at *
      try simp only [nc] at *
      try simp only [Int.ofNat_eq_natCast, decide_eq_true_eq, decide_eq_false_iff_not, Bool.and_eq_true, beq_iff_eq, beq_eq_false_iff_ne, ne_eq, Bool.false_eq_true, reduceCtorEq, Nat.add_eq, Nat.sub_eq, Nat.blt_eq, Nat.ble_eq, Nat.zero_add, Nat.add_zero, Bool.not_eq_true', Bool.not_eq_false', fEnt, fRow] at *
    all_goals subst hm
    · decide
    · rw [hmid]; omega
    · have hid : (l.getD ((i + j) / 2).toNat dEnt).id < b := by
        rw [hmid] at hx
        exact hx.1 (by omega)
      rw [hmid]
      refine WD.now ⟨_, _, _, _, rfl, rfl, ?_, ?_, h2, fun t ht => ?_, h4⟩ ?_
      · rw [wI (by omega) (by omega)]; omega
      · rw [wI (by omega) (by omega)]; omega
      · rw [wI (by omega) (by omega)] at ht
        by_cases e : t = ((i + j) / 2).toNat
        · subst e; exact hid
        · have := hmon t ((i + j) / 2).toNat (by omega) (by omega)
          omega
      · show (j - IntKind.i64.wrap ((i + j) / 2 + 1)).toNat < (j - i).toNat
        rw [wI (by omega) (by omega)]; omega
    · have hid : b ≤ (l.getD ((i + j) / 2).toNat dEnt).id := by
        rw [hmid] at hx
        omega
      rw [hmid]
      refine WD.now ⟨_, _, _, _, rfl, rfl, h0, ?_, ?_, h3, fun t ht hl => ?_⟩ ?_
      · omega
      · omega
      · by_cases e : t = ((i + j) / 2).toNat
        · subst e; exact hid
        · have := hmon ((i + j) / 2).toNat t (by omega) (by omega)
          omega
      · show ((i + j) / 2 - i).toNat < (j - i).toNat
        omega
    · omega
    · refine FQ.unl (FQ.done ⟨i.toNat, _, i, rfl, by omega, by omega, fun t ht => h3 t (by omega), fun t ht hl => h4 t (by omega) hl, ?_, rfl⟩)
      rw [beq_iff_eq, hx']
      exact ⟨fun h => ⟨by omega, h⟩, fun h => h.2⟩
    · refine FQ.unl (FQ.done ⟨i.toNat, _, i, rfl, by omega, by omega, fun t ht => h3 t (by omega), fun t ht hl => h4 t (by omega) hl, ⟨fun h => by simp at h, fun h => by omega⟩, rfl⟩)
theorem c31 {P : Program} (hP : Try.prog = P) (bk : Bk) (hl : bk.opn.length < 4611686018427387904) (hs : bk.opn.Pairwise fun x y => x.id < y.id) (b : Int) (nx : Nat) : ACalls P 31 [eBk bk, .int false .i64 b] [] nx (fun v o n => ∃ (k : Nat) (f : Bool) (z : Int), v = .tup [.int false .i64 z, .bool f] ∧ z = k ∧ k ≤ bk.opn.length ∧ (∀ i, i < k → (bk.opn.getD i dEnt).id < b) ∧ (∀ i, k ≤ i → i < bk.opn.length → b ≤ (bk.opn.getD i dEnt).id) ∧ (f = true ↔ k < bk.opn.length ∧ (bk.opn.getD k dEnt).id = b) ∧ o = []) := by
  subst hP
  refine acalls_go (nm := []) (pl := []) (c := code Try.f31) tab_ok mixed Try.func31 (by kernel_rfl) (by kernel_rfl) (by kernel_rfl) ?_
  intro O P Q hO hP hQ
  have hsame : ∀ a, O.neq a a = true := fun a => by rw [← hO]; simp [real]
  obtain ⟨nadd, nsub, nmul, nquo, nrem, nbits, nshl, nshr, nwrap, nmax, nmin, nlt, nle, neq, nnot, nbeq, nband, ni2n, nn2i, ninb, nnadd, nnsub, nnle, nnlt, nneq, nlen, nget, nupd, napp, ntak, ndrp, nspl, nrep, nnth, nmlen, ncut, nemap, nslen, nsidx, nscut, nscat, nseq, nfcmp, ni2f⟩ := O
  replace hsame : ∀ a, nneq a a = true := hsame
  cbv
  repeat' (first | exact hsame _ | refine And.intro ?_ ?_ | (refine (c52 hP _ hl hs _ _).fr ?_; rintro _ _ _ ⟨k, f, z, rfl, hz, h1, h2, h3, h4, rfl⟩; cbv) | (split <;> (rename_i hc; (try rw [hc]); (try cbv))))
  all_goals
    simp only [real, Num.mk.injEq] at hO
    obtain ⟨rfl, rfl, rfl, rfl, rfl, rfl, rfl, rfl, rfl, rfl, rfl, rfl, rfl, rfl, rfl, rfl, rfl, rfl, rfl, rfl, rfl, rfl, rfl, rfl, rfl, rfl, rfl, rfl, rfl, rfl, rfl, rfl, rfl, rfl, rfl, rfl, rfl, rfl, rfl, rfl, rfl, rfl, rfl, rfl⟩ := hO
    subst hQ
    try subst hI
    try subst hμ
    clear hsame
    try dsimp only at *
    try simp only [nc] at *
    try simp only [Int.ofNat_eq_natCast, decide_eq_true_eq, decide_eq_false_iff_not, Bool.and_eq_true, beq_iff_eq, beq_eq_false_iff_ne, ne_eq, Bool.false_eq_true, reduceCtorEq, Nat.add_eq, Nat.sub_eq, Nat.blt_eq, Nat.ble_eq, Nat.zero_add, Nat.add_zero, Bool.not_eq_true', Bool.not_eq_false', fEnt, fRow] at *
  exact FQ.unl (FQ.forget (FQ.done ⟨k, f, z, rfl, hz, h1, h2, h3, h4, rfl⟩))
end Go.Proofs.Ytckkcgkgfkgfdaa.AM
