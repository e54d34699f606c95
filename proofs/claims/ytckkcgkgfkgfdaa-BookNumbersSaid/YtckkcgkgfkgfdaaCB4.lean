/- Contracts of the book's functions: look, add, find, worth. -/
import Derived.Test.YtckkcgkgfkgfdaaCB1
import Derived.Test.YtckkcgkgfkgfdaaCB3
set_option linter.unusedVariables false
set_option linter.unusedSimpArgs false
namespace Go.Proofs.Ytckkcgkgfkgfdaa.AM
open Ytckkcgkgfkgfdaa
set_option maxRecDepth 20000
def rowAt (b : Bk) (i : Int) : BRow := if i < 0 then dRow else b.rows.getD i.toNat dRow
theorem c32 {P : Program} (hP : Try.prog = P) (b : Bk) (i : Int) (nx : Nat) : ACalls P 32 [eBk b, .int false .i64 i] [] nx (fun v o n => ∃ r, v = eRow r ∧ r = rowAt b i ∧ o = []) := by
  obtain ⟨sh, ca, rows, opn⟩ := b
  subst hP
  refine acalls_go (nm := []) (pl := []) (c := code Try.f32) tab_ok mixed Try.func32 (by kernel_rfl) (by kernel_rfl) (by kernel_rfl) ?_
  intro O P Q hO hP hQ
  have hsame : ∀ a, O.neq a a = true := fun a => by rw [← hO]; simp [real]
  obtain ⟨nadd, nsub, nmul, nquo, nrem, nbits, nshl, nshr, nwrap, nmax, nmin, nlt, nle, neq, nnot, nbeq, nband, ni2n, nn2i, ninb, nnadd, nnsub, nnle, nnlt, nneq, nlen, nget, nupd, napp, ntak, ndrp, nspl, nrep, nnth, nmlen, ncut, nemap, nslen, nsidx, nscut, nscat, nseq, nfcmp, ni2f⟩ := O
  replace hsame : ∀ a, nneq a a = true := hsame
  cbv
  repeat' (first | exact hsame _ | refine And.intro ?_ ?_ | (split <;> (rename_i hc; (try rw [hc]); (try cbv))))
  all_goals
    simp only [real, Num.mk.injEq] at hO
    obtain ⟨rfl, rfl, rfl, rfl, rfl, rfl, rfl, rfl, rfl, rfl, rfl, rfl, rfl, rfl, rfl, rfl, rfl, rfl, rfl, rfl, rfl, rfl, rfl, rfl, rfl, rfl, rfl, rfl, rfl, rfl, rfl, rfl, rfl, rfl, rfl, rfl, rfl, rfl, rfl, rfl, rfl, rfl, rfl, rfl⟩ := hO
    subst hQ
    try subst hI
    try subst hμ
    clear hsame
    try dsimp only at *
    try simp only [nc] at *
    try simp only [Int.ofNat_eq_natCast, decide_eq_true_eq, decide_eq_false_iff_not, Bool.and_eq_true, beq_iff_eq, beq_eq_false_iff_ne, ne_eq, Bool.false_eq_true, reduceCtorEq, Nat.add_eq, Nat.sub_eq, Nat.blt_eq, Nat.ble_eq, Nat.zero_add, Nat.add_zero, Bool.not_eq_true', Bool.not_eq_false', fEnt, fRow] at *
  · refine FQ.wk (Wk.agg (Wks.cons (Wk.nil_mlist 1 true false Int eI 0) (Wks.refl _))) (FQ.unl (FQ.forget (FQ.done ⟨dRow, rfl, ?_, rfl⟩)))
    rw [rowAt, if_pos ‹_›]
  · refine FQ.wk (Wk.agg (Wks.cons (Wk.nil_mlist 1 true false Int eI 0) (Wks.refl _))) (FQ.unl (FQ.forget (FQ.done ⟨dRow, rfl, ?_, rfl⟩)))
    rw [rowAt, if_neg ‹_›]
    show _ = rows.getD i.toNat dRow
    rw [List.getD_eq_getElem?_getD, List.getElem?_eq_none (by omega)]
    rfl
  · omega
  · refine FQ.unl (FQ.forget (FQ.done ⟨rows.getD i.toNat dRow, rfl, ?_, rfl⟩))
    rw [rowAt, if_neg ‹_›]
theorem c55 {P : Program} (hP : Try.prog = P) (l : List Int) (hl : l.length < 9223372036854775807) (x : Int) (nx : Nat) : ACalls P 55 [.mlist 1 true false Int eI 0 l, .int false .i64 x] [] nx (fun v o _ => ∃ z, v = .int false .i64 z ∧ (0 ≤ z ↔ x ∈ l) ∧ o = []) := by
  subst hP
  refine acalls_go (nm := []) (pl := []) (c := code Try.f55) tab_ok mixed Try.func55 (by kernel_rfl) (by kernel_rfl) (by kernel_rfl) ?_
  intro O P Q hO hP hQ
  have hsame : ∀ a, O.neq a a = true := fun a => by rw [← hO]; simp [real]
  obtain ⟨nadd, nsub, nmul, nquo, nrem, nbits, nshl, nshr, nwrap, nmax, nmin, nlt, nle, neq, nnot, nbeq, nband, ni2n, nn2i, ninb, nnadd, nnsub, nnle, nnlt, nneq, nlen, nget, nupd, napp, ntak, ndrp, nspl, nrep, nnth, nmlen, ncut, nemap, nslen, nsidx, nscut, nscat, nseq, nfcmp, ni2f⟩ := O
  replace hsame : ∀ a, nneq a a = true := hsame
  cbv
  try clear hI I
  try clear hμ μ
  obtain ⟨I, hI⟩ : ∃ I : St → Prop, I = (fun s => ∃ (j m : Int) (n : Nat), s = ⟨[(8, .int false .i64 j), (7, .int false .i64 m), (0, .mlist 1 true false Int eI 0 l), (1, .int false .i64 x)], [], n⟩ ∧ m = l.length ∧ 0 ≤ j ∧ j ≤ m ∧ ∀ i : Nat, i < j → l[i]? ≠ some x) := ⟨_, rfl⟩
  obtain ⟨μ, hμ⟩ : ∃ μ : St → Nat, μ = (fun s => match s.tm with | (_, .int _ _ j) :: (_, .int _ _ m) :: _ => (m - j).toNat | _ => 0) := ⟨_, rfl⟩
  refine ⟨[8, 7, 0, 1], [], I, μ, ?_, ?_⟩
  · cbv
    simp only [real, Num.mk.injEq] at hO
    obtain ⟨rfl, rfl, rfl, rfl, rfl, rfl, rfl, rfl, rfl, rfl, rfl, rfl, rfl, rfl, rfl, rfl, rfl, rfl, rfl, rfl, rfl, rfl, rfl, rfl, rfl, rfl, rfl, rfl, rfl, rfl, rfl, rfl, rfl, rfl, rfl, rfl, rfl, rfl, rfl, rfl, rfl, rfl, rfl, rfl⟩ := hO
    subst hQ
    try subst hI
    try subst hμ
    clear hsame
    try dsimp only at *
    try simp only [nc] at *
    try simp only [Int.ofNat_eq_natCast, decide_eq_true_eq, decide_eq_false_iff_not, Bool.and_eq_true, beq_iff_eq, beq_eq_false_iff_ne, ne_eq, Bool.false_eq_true, reduceCtorEq, Nat.add_eq, Nat.sub_eq, Nat.blt_eq, Nat.ble_eq, Nat.zero_add, Nat.add_zero, Bool.not_eq_true', Bool.not_eq_false', fEnt, fRow] at *
    exact WI.now ⟨_, _, _, rfl, rfl, Int.le_refl _, by omega, fun i hi => by omega⟩
  · intro s₀ h₀
    rw [hI] at h₀
    obtain ⟨j, m, n, rfl, hm, h0, h1, h2⟩ := h₀
    cbv
    repeat' (first | exact hsame _ | refine And.intro ?_ ?_ | (split <;> (rename_i hc; (try rw [hc]); (try cbv))))
    all_goals
      simp only [real, Num.mk.injEq] at hO
      obtain ⟨rfl, rfl, rfl, rfl, rfl, rfl, rfl, rfl, rfl, rfl, rfl, rfl, rfl, rfl, rfl, rfl, rfl, rfl, rfl, rfl, rfl, rfl, rfl, rfl, rfl, rfl, rfl, rfl, rfl, rfl, rfl, rfl, rfl, rfl, rfl, rfl, rfl, rfl, rfl, rfl, rfl, rfl, rfl, rfl⟩ := hO
      subst hQ
      try subst hI
      try subst hμ
      clear hsame
      try dsimp only at *
      try simp only [nc] at *
      try simp only [Int.ofNat_eq_natCast, decide_eq_true_eq, decide_eq_false_iff_not, Bool.and_eq_true, beq_iff_eq, beq_eq_false_iff_ne, ne_eq, Bool.false_eq_true, reduceCtorEq, Nat.add_eq, Nat.sub_eq, Nat.blt_eq, Nat.ble_eq, Nat.zero_add, Nat.add_zero, Bool.not_eq_true', Bool.not_eq_false', fEnt, fRow] at *
    all_goals subst hm
    · omega
    · have hjl : j.toNat < l.length := by omega
      have he : x ∈ l := by
        have he : x = l.getD j.toNat 0 := by assumption
        rw [he, List.getD_eq_getElem?_getD, List.getElem?_eq_getElem hjl]
        exact List.getElem_mem hjl
      exact FQ.done ⟨_, rfl, ⟨fun _ => he, fun _ => h0⟩, rfl⟩
    · have hjl : j.toNat < l.length := by omega
      have he : ¬x = l.getD j.toNat 0 := by assumption
      rw [List.getD_eq_getElem?_getD, List.getElem?_eq_getElem hjl] at he
      refine WD.now ⟨_, _, _, rfl, rfl, ?_, ?_, fun i hi => ?_⟩ ?_
      · rw [wI (by omega) (by omega)]; omega
      · rw [wI (by omega) (by omega)]; omega
      · rw [wI (by omega) (by omega)] at hi
        by_cases e : (i : Int) < j
        · exact h2 i e
        · have e : i = j.toNat := by omega
          subst e
          rw [List.getElem?_eq_getElem hjl]
          exact fun h => he (Option.some.inj h).symm
      · show ((l.length : Int) - (IntKind.i64.wrap (j + 1))).toNat < ((l.length : Int) - j).toNat
        rw [wI (by omega) (by omega)]; omega
    · refine FQ.unl (FQ.done ⟨_, rfl, ⟨fun h => by omega, fun h => ?_⟩, rfl⟩)
      obtain ⟨i, hi, he⟩ := List.getElem_of_mem h
      exact absurd (by rw [List.getElem?_eq_getElem hi, he]) (h2 i (by omega))
theorem c33 {P : Program} (hP : Try.prog = P) (l : List Int) (hl : l.length < 9223372036854775807) (x : Int) (nx : Nat) : ACalls P 33 [.mlist 1 true false Int eI 0 l, .int false .i64 x] [] nx (fun v o _ => ∃ z, v = .bool z ∧ (z = true ↔ x ∈ l) ∧ o = []) := by
  subst hP
  refine acalls_go (nm := []) (pl := []) (c := code Try.f33) tab_ok mixed Try.func33 (by kernel_rfl) (by kernel_rfl) (by kernel_rfl) ?_
  intro O P Q hO hP hQ
  have hsame : ∀ a, O.neq a a = true := fun a => by rw [← hO]; simp [real]
  obtain ⟨nadd, nsub, nmul, nquo, nrem, nbits, nshl, nshr, nwrap, nmax, nmin, nlt, nle, neq, nnot, nbeq, nband, ni2n, nn2i, ninb, nnadd, nnsub, nnle, nnlt, nneq, nlen, nget, nupd, napp, ntak, ndrp, nspl, nrep, nnth, nmlen, ncut, nemap, nslen, nsidx, nscut, nscat, nseq, nfcmp, ni2f⟩ := O
  replace hsame : ∀ a, nneq a a = true := hsame
  cbv
  repeat' (first | exact hsame _ | refine And.intro ?_ ?_ | (refine (c55 hP _ hl _ _).fr ?_; rintro _ _ _ ⟨z, rfl, hz, rfl⟩; cbv) | (split <;> (rename_i hc; (try rw [hc]); (try cbv))))
  all_goals
    simp only [real, Num.mk.injEq] at hO
    obtain ⟨rfl, rfl, rfl, rfl, rfl, rfl, rfl, rfl, rfl, rfl, rfl, rfl, rfl, rfl, rfl, rfl, rfl, rfl, rfl, rfl, rfl, rfl, rfl, rfl, rfl, rfl, rfl, rfl, rfl, rfl, rfl, rfl, rfl, rfl, rfl, rfl, rfl, rfl, rfl, rfl, rfl, rfl, rfl, rfl⟩ := hO
    subst hQ
    try subst hI
    try subst hμ
    clear hsame
    try dsimp only at *
    try simp only [nc] at *
    try simp only [Int.ofNat_eq_natCast, decide_eq_true_eq, decide_eq_false_iff_not, Bool.and_eq_true, beq_iff_eq, beq_eq_false_iff_ne, ne_eq, Bool.false_eq_true, reduceCtorEq, Nat.add_eq, Nat.sub_eq, Nat.blt_eq, Nat.ble_eq, Nat.zero_add, Nat.add_zero, Bool.not_eq_true', Bool.not_eq_false', fEnt, fRow] at *
  exact FQ.done ⟨_, rfl, by simpa using hz, rfl⟩
def bLook (c : Cfg) (b : Bk) (o : Ordr) : Int := if o.number ∈ (rowAt b o.acct).nums then 9 else if o.second < (rowAt b o.acct).second ∨ o.second = (rowAt b o.acct).second ∧ c.rate ≤ (rowAt b o.acct).count then 10 else if c.table ≤ b.opn.length then 11 else 0
theorem c14 {P : Program} (hP : Try.prog = P) (g f : Bool) (c : Cfg) (b : Bk) (h3 : ∀ r ∈ b.rows, r.nums.length ≤ 1000000000000) (o : Ordr) (nx : Nat) : ACalls P 14 [eCfg g f c, eBk b, eOrd o] [] nx (fun v ob n => v = .int false .i64 (bLook c b o) ∧ ob = []) := by
  obtain ⟨sh, ca, rows, opn⟩ := b
  obtain ⟨c1, c2, c3, c4, c5, c6, c7⟩ := c
  obtain ⟨acct, sym, sell, price, qty, number, second⟩ := o
  subst hP
  refine acalls_go (nm := []) (pl := []) (c := code Try.f14) tab_ok mixed Try.func14 (by kernel_rfl) (by kernel_rfl) (by kernel_rfl) ?_
  intro O P Q hO hP hQ
  have hsame : ∀ a, O.neq a a = true := fun a => by rw [← hO]; simp [real]
  obtain ⟨nadd, nsub, nmul, nquo, nrem, nbits, nshl, nshr, nwrap, nmax, nmin, nlt, nle, neq, nnot, nbeq, nband, ni2n, nn2i, ninb, nnadd, nnsub, nnle, nnlt, nneq, nlen, nget, nupd, napp, ntak, ndrp, nspl, nrep, nnth, nmlen, ncut, nemap, nslen, nsidx, nscut, nscat, nseq, nfcmp, ni2f⟩ := O
  replace hsame : ∀ a, nneq a a = true := hsame
  cbv
  repeat' (first | exact hsame _ | refine And.intro ?_ ?_ | (refine (c32 hP ⟨sh, ca, rows, opn⟩ _ _).fr ?_; rintro _ _ _ ⟨⟨nums, sec, cnt⟩, rfl, hr, rfl⟩; cbv) | (refine (c33 hP _ ?_ _ _).fr ?_; all_goals try (rintro _ _ _ ⟨z, rfl, hz, rfl⟩; cbv)) | (split <;> (rename_i hc; (try rw [hc]); (try cbv))))
  all_goals
    simp only [real, Num.mk.injEq] at hO
    obtain ⟨rfl, rfl, rfl, rfl, rfl, rfl, rfl, rfl, rfl, rfl, rfl, rfl, rfl, rfl, rfl, rfl, rfl, rfl, rfl, rfl, rfl, rfl, rfl, rfl, rfl, rfl, rfl, rfl, rfl, rfl, rfl, rfl, rfl, rfl, rfl, rfl, rfl, rfl, rfl, rfl, rfl, rfl, rfl, rfl⟩ := hO
    subst hQ
    try subst hI
    try subst hμ
    clear hsame
    try dsimp only at *
    try simp only [nc] at *
    try simp only [Int.ofNat_eq_natCast, decide_eq_true_eq, decide_eq_false_iff_not, Bool.and_eq_true, beq_iff_eq, beq_eq_false_iff_ne, ne_eq, Bool.false_eq_true, reduceCtorEq, Nat.add_eq, Nat.sub_eq, Nat.blt_eq, Nat.ble_eq, Nat.zero_add, Nat.add_zero, Bool.not_eq_true', Bool.not_eq_false', fEnt, fRow] at *
  · have : nums = (rowAt ⟨sh, ca, rows, opn⟩ acct).nums := congrArg BRow.nums hr
    rw [this]
    unfold rowAt
    split
    · decide
    · exact Nat.lt_of_le_of_lt (getD_all (p := fun r : BRow => r.nums.length ≤ 1000000000000) h3 (by decide) _) (by decide)
  all_goals
    refine FQ.unl (FQ.forget (FQ.done ⟨?_, rfl⟩))
    simp only [bLook, ← hr, tupOf, unl]
    (repeat' split) <;> first | rfl | (exfalso; first | omega | (simp_all; done) | (simp_all; omega))
def bFind (b : Bk) (id : Int) : Option BEnt := b.opn.find? (fun x => x.id == id)
theorem c13 {P : Program} (hP : Try.prog = P) (bk : Bk) (hl : bk.opn.length < 4611686018427387904) (hs : bk.opn.Pairwise fun x y => x.id < y.id) (b : Int) (nx : Nat) : ACalls P 13 [eBk bk, .int false .i64 b] [] nx (fun v o n => ∃ (k : Nat) (f : Bool) (e : BEnt), v = .tup [eEnt e, .bool f] ∧ k ≤ bk.opn.length ∧ (∀ i, i < k → (bk.opn.getD i dEnt).id < b) ∧ (∀ i, k ≤ i → i < bk.opn.length → b ≤ (bk.opn.getD i dEnt).id) ∧ (f = true ↔ k < bk.opn.length ∧ (bk.opn.getD k dEnt).id = b) ∧ e = (bif f then bk.opn.getD k dEnt else dEnt) ∧ o = []) := by
  obtain ⟨sh, ca, rows, opn⟩ := bk
  subst hP
  refine acalls_go (nm := []) (pl := []) (c := code Try.f13) tab_ok mixed Try.func13 (by kernel_rfl) (by kernel_rfl) (by kernel_rfl) ?_
  intro O P Q hO hP hQ
  have hsame : ∀ a, O.neq a a = true := fun a => by rw [← hO]; simp [real]
  obtain ⟨nadd, nsub, nmul, nquo, nrem, nbits, nshl, nshr, nwrap, nmax, nmin, nlt, nle, neq, nnot, nbeq, nband, ni2n, nn2i, ninb, nnadd, nnsub, nnle, nnlt, nneq, nlen, nget, nupd, napp, ntak, ndrp, nspl, nrep, nnth, nmlen, ncut, nemap, nslen, nsidx, nscut, nscat, nseq, nfcmp, ni2f⟩ := O
  replace hsame : ∀ a, nneq a a = true := hsame
  cbv
  repeat' (first | exact hsame _ | refine And.intro ?_ ?_ | (refine (c31 hP ⟨sh, ca, rows, opn⟩ hl hs _ _).fr ?_; rintro _ _ _ ⟨k, f, z, rfl, hz, h1, h2, h3, h4, rfl⟩; cbv) | (split <;> (rename_i hc; (try rw [hc]); (try cbv))))
  all_goals
    simp only [real, Num.mk.injEq] at hO
    obtain ⟨rfl, rfl, rfl, rfl, rfl, rfl, rfl, rfl, rfl, rfl, rfl, rfl, rfl, rfl, rfl, rfl, rfl, rfl, rfl, rfl, rfl, rfl, rfl, rfl, rfl, rfl, rfl, rfl, rfl, rfl, rfl, rfl, rfl, rfl, rfl, rfl, rfl, rfl, rfl, rfl, rfl, rfl, rfl, rfl⟩ := hO
    subst hQ
    try subst hI
    try subst hμ
    clear hsame
    try dsimp only at *
    try simp only [nc] at *
    try simp only [Int.ofNat_eq_natCast, decide_eq_true_eq, decide_eq_false_iff_not, Bool.and_eq_true, beq_iff_eq, beq_eq_false_iff_ne, ne_eq, Bool.false_eq_true, reduceCtorEq, Nat.add_eq, Nat.sub_eq, Nat.blt_eq, Nat.ble_eq, Nat.zero_add, Nat.add_zero, Bool.not_eq_true', Bool.not_eq_false', fEnt, fRow] at *
  · refine FQ.unl (FQ.forget (FQ.done ⟨k, false, dEnt, rfl, h1, h2, h3, ?_, rfl, rfl⟩))
    simp_all
  · have := h4.1 (by assumption)
    omega
  · refine FQ.unl (FQ.forget (FQ.done ⟨k, true, opn.getD k dEnt, ?_, h1, h2, h3, ?_, rfl, rfl⟩))
    · subst hz
      rfl
    · exact ⟨fun _ => h4.1 (by assumption), fun _ => rfl⟩
def bWorth (l : List BEnt) (acct : Int) : Int := l.foldl (fun n x => if x.ord.acct = acct then IntKind.i64.wrap (n + IntKind.i64.wrap (x.ord.price * x.left)) else n) 0
theorem c30 {P : Program} (hP : Try.prog = P) (b : Bk) (hl : b.opn.length ≤ 1000000000000) (acct : Int) (nx : Nat) : ACalls P 30 [eBk b, .int false .i64 acct] [] nx (fun v o n => ∃ x, v = .int false .i64 x ∧ x = bWorth b.opn acct ∧ o = []) := by
  obtain ⟨sh, ca, rows, opn⟩ := b
  subst hP
  refine acalls_go (nm := []) (pl := []) (c := code Try.f30) tab_ok mixed Try.func30 (by kernel_rfl) (by kernel_rfl) (by kernel_rfl) ?_
  intro O P Q hO hP hQ
  have hsame : ∀ a, O.neq a a = true := fun a => by rw [← hO]; simp [real]
  obtain ⟨nadd, nsub, nmul, nquo, nrem, nbits, nshl, nshr, nwrap, nmax, nmin, nlt, nle, neq, nnot, nbeq, nband, ni2n, nn2i, ninb, nnadd, nnsub, nnle, nnlt, nneq, nlen, nget, nupd, napp, ntak, ndrp, nspl, nrep, nnth, nmlen, ncut, nemap, nslen, nsidx, nscut, nscat, nseq, nfcmp, ni2f⟩ := O
  replace hsame : ∀ a, nneq a a = true := hsame
  cbv
  repeat' (first | exact hsame _ | refine And.intro ?_ ?_ | (split <;> (rename_i hc; (try rw [hc]); (try cbv))))
  try clear hI I
  try clear hμ μ
  obtain ⟨I, hI⟩ : ∃ I : St → Prop, I = (fun s => ∃ (a m i : Int) (n : Nat), s = ⟨[(1, .int false .i64 acct), (5, .int false .i64 a), (9, .mlist 11 true false BEnt eEnt dEnt opn), (10, .int false .i64 m), (11, .int false .i64 i)], [], n⟩ ∧ m = opn.length ∧ 0 ≤ i ∧ i ≤ m ∧ a = bWorth (opn.take i.toNat) acct) := ⟨_, rfl⟩
  obtain ⟨μ, hμ⟩ : ∃ μ : St → Nat, μ = (fun s => match s.tm with | _ :: _ :: _ :: (_, .int _ _ m) :: (_, .int _ _ i) :: _ => (m - i).toNat | _ => 0) := ⟨_, rfl⟩
  refine ⟨[1, 5, 9, 10, 11], [], I, μ, ?_, ?_⟩
  · cbv
    simp only [real, Num.mk.injEq] at hO
    obtain ⟨rfl, rfl, rfl, rfl, rfl, rfl, rfl, rfl, rfl, rfl, rfl, rfl, rfl, rfl, rfl, rfl, rfl, rfl, rfl, rfl, rfl, rfl, rfl, rfl, rfl, rfl, rfl, rfl, rfl, rfl, rfl, rfl, rfl, rfl, rfl, rfl, rfl, rfl, rfl, rfl, rfl, rfl, rfl, rfl⟩ := hO
    subst hQ
    try subst hI
    try subst hμ
    clear hsame
    try dsimp only at *
    try simp only [nc] at *
    try simp only [Int.ofNat_eq_natCast, decide_eq_true_eq, decide_eq_false_iff_not, Bool.and_eq_true, beq_iff_eq, beq_eq_false_iff_ne, ne_eq, Bool.false_eq_true, reduceCtorEq, Nat.add_eq, Nat.sub_eq, Nat.blt_eq, Nat.ble_eq, Nat.zero_add, Nat.add_zero, Bool.not_eq_true', Bool.not_eq_false', fEnt, fRow] at *
    exact WI.now ⟨_, _, _, _, rfl, rfl, Int.le_refl _, by omega, rfl⟩
  · intro s₀ h₀
    rw [hI] at h₀
    obtain ⟨a, m, i, n, rfl, hm, h0, h1, ha⟩ := h₀
    cbv
    repeat' (first | exact hsame _ | refine And.intro ?_ ?_ | (split <;> (rename_i hc; (try rw [hc]); (try cbv))))
    all_goals
      simp only [real, Num.mk.injEq] at hO
      obtain ⟨rfl, rfl, rfl, rfl, rfl, rfl, rfl, rfl, rfl, rfl, rfl, rfl, rfl, rfl, rfl, rfl, rfl, rfl, rfl, rfl, rfl, rfl, rfl, rfl, rfl, rfl, rfl, rfl, rfl, rfl, rfl, rfl, rfl, rfl, rfl, rfl, rfl, rfl, rfl, rfl, rfl, rfl, rfl, rfl⟩ := hO
      subst hQ
      try subst hI
      try subst hμ
      clear hsame
      try dsimp only at *
      try simp only [nc] at *
      try simp only [Int.ofNat_eq_natCast, decide_eq_true_eq, decide_eq_false_iff_not, Bool.and_eq_true, beq_iff_eq, beq_eq_false_iff_ne, ne_eq, Bool.false_eq_true, reduceCtorEq, Nat.add_eq, Nat.sub_eq, Nat.blt_eq, Nat.ble_eq, Nat.zero_add, Nat.add_zero, Bool.not_eq_true', Bool.not_eq_false', fEnt, fRow] at *
    all_goals subst hm
    all_goals try (have hi : i.toNat < opn.length := by omega)
    all_goals try (have hn : (IntKind.i64.wrap (i + 1)).toNat = i.toNat + 1 := by rw [wI (by omega) (by omega)]; omega)
    · omega
    · refine WD.now ⟨_, _, _, _, rfl, rfl, ?_, ?_, ?_⟩ ?_
      · omega
      · omega
      · rw [hn, bWorth, foldl_take _ _ _ dEnt _ hi, ha, if_pos (by assumption)]
        rfl
      · show ((opn.length : Int) - (IntKind.i64.wrap (i + 1))).toNat < ((opn.length : Int) - i).toNat
        omega
    · refine WD.now ⟨_, _, _, _, rfl, rfl, ?_, ?_, ?_⟩ ?_
      · omega
      · omega
      · rw [hn, bWorth, foldl_take _ _ _ dEnt _ hi, ha, if_neg (by assumption)]
        rfl
      · show ((opn.length : Int) - (IntKind.i64.wrap (i + 1))).toNat < ((opn.length : Int) - i).toNat
        omega
    · refine FQ.done ⟨_, rfl, ?_, rfl⟩
      rw [ha, List.take_of_length_le (by omega)]
def bAdd (c : Cfg) (b : Bk) (o : Ordr) (ep : Int) : Bk := ⟨b.shard, IntKind.i64.wrap (b.came + 1), if 0 ≤ o.acct ∧ o.acct < b.rows.length then b.rows.set o.acct.toNat (rowWith (b.rows.getD o.acct.toNat dRow) c.window o) else b.rows, b.opn ++ [⟨IntKind.i64.wrap (b.shard + IntKind.i64.wrap (c.shards * b.came)), o, o.qty, 1, ep⟩]⟩
theorem c11 {P : Program} (hP : Try.prog = P) (g f : Bool) (c : Cfg) (hw : 0 ≤ c.window) (hw2 : c.window ≤ 1000000) (b : Bk) (h1 : b.rows.length ≤ 1000000000000) (h2 : b.opn.length ≤ 1000000000000) (h3 : ∀ r ∈ b.rows, r.nums.length ≤ 1000000000000) (o : Ordr) (ep : Int) (nx : Nat) : ACalls P 11 [eCfg g f c, eBk b, eOrd o, .int false .i64 ep] [] nx (fun v ob n => ∃ b' id, v = .tup [eBk b', .int false .i64 id] ∧ b' = bAdd c b o ep ∧ id = IntKind.i64.wrap (b.shard + IntKind.i64.wrap (c.shards * b.came)) ∧ ob = []) := by
  obtain ⟨sh, ca, rows, opn⟩ := b
  obtain ⟨c1, c2, c3, c4, c5, c6, c7⟩ := c
  obtain ⟨acct, sym, sell, price, qty, number, second⟩ := o
  subst hP
  refine acalls_go (nm := []) (pl := pl11) (c := code Try.f11) tab_ok mixed Try.func11 (by kernel_rfl) (by kernel_rfl) (by exact pl11_ok) ?_
  intro O P Q hO hP hQ
  have hsame : ∀ a, O.neq a a = true := fun a => by rw [← hO]; simp [real]
  obtain ⟨nadd, nsub, nmul, nquo, nrem, nbits, nshl, nshr, nwrap, nmax, nmin, nlt, nle, neq, nnot, nbeq, nband, ni2n, nn2i, ninb, nnadd, nnsub, nnle, nnlt, nneq, nlen, nget, nupd, napp, ntak, ndrp, nspl, nrep, nnth, nmlen, ncut, nemap, nslen, nsidx, nscut, nscat, nseq, nfcmp, ni2f⟩ := O
  replace hsame : ∀ a, nneq a a = true := hsame
  cbv
  repeat' (first | exact hsame _ | refine And.intro ?_ ?_ | (refine (c26 hP ⟨sh, ca, rows, opn⟩ h1 h2 h3 _).fr ?_; rintro _ _ _ ⟨kr, ke, x, y, rfl, hkr, hke, rfl⟩; cbv) | (refine (c27 hP _ ?_ _ hw hw2 ⟨acct, sym, sell, price, qty, number, second⟩ _).fr ?_; all_goals try (rintro _ _ _ ⟨⟨nums, sec, cnt⟩, rfl, hr, rfl⟩; cbv)) | (split <;> (rename_i hc; (try rw [hc]); (try cbv))))
  all_goals
    simp only [real, Num.mk.injEq] at hO
    obtain ⟨rfl, rfl, rfl, rfl, rfl, rfl, rfl, rfl, rfl, rfl, rfl, rfl, rfl, rfl, rfl, rfl, rfl, rfl, rfl, rfl, rfl, rfl, rfl, rfl, rfl, rfl, rfl, rfl, rfl, rfl, rfl, rfl, rfl, rfl, rfl, rfl, rfl, rfl, rfl, rfl, rfl, rfl, rfl, rfl⟩ := hO
    subst hQ
    try subst hI
    try subst hμ
    clear hsame
    try dsimp only at *
    try simp only [nc] at *
    try simp only [Int.ofNat_eq_natCast, decide_eq_true_eq, decide_eq_false_iff_not, Bool.and_eq_true, beq_iff_eq, beq_eq_false_iff_ne, ne_eq, Bool.false_eq_true, reduceCtorEq, Nat.add_eq, Nat.sub_eq, Nat.blt_eq, Nat.ble_eq, Nat.zero_add, Nat.add_zero, Bool.not_eq_true', Bool.not_eq_false', fEnt, fRow] at *
  all_goals try (first | omega | decide | (simp only [List.length_cons, List.length_nil, List.length_map, List.length_append, eqb_iff]; omega))
  · exact getD_all (p := fun r : BRow => r.nums.length ≤ 1000000000000) h3 (by decide) _
  · refine FQ.frz 48005 rfl ?_ ?_
    rotate_left
    simp only [tupOf, frz, frzs, isIt, eqb_self, cond_true, cond_false, cutSeq, delOb, show eqb 48005 47005 = false from rfl, show eqb 47005 48005 = false from rfl]
    rotate_right
    simp only [tupOf, frzC, frzCs, isIt, eqb_self, cond_true, cond_false, seqLe, real, List.append_nil, List.nil_append, List.mem_cons, List.not_mem_nil, or_false, forall_eq, List.cons_append, show eqb 48005 47005 = false from rfl, show eqb 47005 48005 = false from rfl]
    · simp; omega
    refine FQ.frz 47005 rfl ?_ ?_
    rotate_left
    simp only [tupOf, frz, frzs, isIt, eqb_self, cond_true, cond_false, cutSeq, delOb, show eqb 47005 48005 = false from rfl, show eqb 48005 47005 = false from rfl]
    rotate_right
    simp only [tupOf, frzC, frzCs, isIt, eqb_self, cond_true, cond_false, seqLe, real, List.append_nil, List.nil_append, List.mem_cons, List.not_mem_nil, or_false, forall_eq, List.cons_append, show eqb 47005 48005 = false from rfl, show eqb 48005 47005 = false from rfl]
    · simp; omega
    refine FQ.unl (FQ.wk (Wk.tup (Wks.cons (Wk.agg (Wks.cons (Wk.refl _) (Wks.cons (Wk.refl _) (Wks.cons (Wk.mlist (l := rows.set acct.toNat ⟨nums, sec, cnt⟩) (enc := eRow) (d := dRow) ?_ id id) (Wks.cons (Wk.mlist_els (l := opn ++ [⟨IntKind.i64.wrap (sh + IntKind.i64.wrap (c1 * ca)), ⟨acct, sym, sell, price, qty, number, second⟩, qty, 1, ep⟩]) (enc := eEnt) (d := dEnt) ?_) Wks.nil))))) (Wks.refl _))) (FQ.forget (FQ.done ⟨⟨sh, IntKind.i64.wrap (ca + 1), _, _⟩, _, rfl, ?_, rfl, rfl⟩)))
    · rw [tk0 (by simp; omega), List.map_set]
      rfl
    · rw [tk0 (by simp; omega), List.map_append]
      exact Wks.append (Wks.refl _) (unls_wk _)
    · rw [bAdd, if_pos ⟨by assumption, by simpa [← hkr] using (by assumption : acct < (kr : Int))⟩, hr]
  all_goals
    refine FQ.frz 48005 rfl ?_ ?_
    rotate_left
    simp only [tupOf, frz, frzs, isIt, eqb_self, cond_true, cond_false, cutSeq, delOb, show eqb 48005 47005 = false from rfl, show eqb 47005 48005 = false from rfl]
    rotate_right
    simp only [tupOf, frzC, frzCs, isIt, eqb_self, cond_true, cond_false, seqLe, real, List.append_nil, List.nil_append, List.mem_cons, List.not_mem_nil, or_false, forall_eq, List.cons_append, show eqb 48005 47005 = false from rfl, show eqb 47005 48005 = false from rfl]
    · simp; omega
    refine FQ.frz 47005 rfl ?_ ?_
    rotate_left
    simp only [tupOf, frz, frzs, isIt, eqb_self, cond_true, cond_false, cutSeq, delOb, show eqb 47005 48005 = false from rfl, show eqb 48005 47005 = false from rfl]
    rotate_right
    simp only [tupOf, frzC, frzCs, isIt, eqb_self, cond_true, cond_false, seqLe, real, List.append_nil, List.nil_append, List.mem_cons, List.not_mem_nil, or_false, forall_eq, List.cons_append, show eqb 47005 48005 = false from rfl, show eqb 48005 47005 = false from rfl]
    · simp; omega
    refine FQ.unl (FQ.wk (Wk.tup (Wks.cons (Wk.agg (Wks.cons (Wk.refl _) (Wks.cons (Wk.refl _) (Wks.cons (Wk.recode (l' := rows) (enc' := eRow) (d' := dRow) ?_) (Wks.cons (Wk.mlist_els (l := opn ++ [⟨IntKind.i64.wrap (sh + IntKind.i64.wrap (c1 * ca)), ⟨acct, sym, sell, price, qty, number, second⟩, qty, 1, ep⟩]) (enc := eEnt) (d := dEnt) ?_) Wks.nil))))) (Wks.refl _))) (FQ.forget (FQ.done ⟨⟨sh, IntKind.i64.wrap (ca + 1), _, _⟩, _, rfl, ?_, rfl, rfl⟩)))
    · simp [real, hkr]
    · rw [tk0 (by simp; omega), List.map_append]
      exact Wks.append (Wks.refl _) (unls_wk _)
    · rw [bAdd, if_neg (by show ¬(0 ≤ acct ∧ acct < (rows.length : Int)); omega)]
end Go.Proofs.Ytckkcgkgfkgfdaa.AM
