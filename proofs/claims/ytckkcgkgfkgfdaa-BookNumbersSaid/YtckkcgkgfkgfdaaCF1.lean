/- Contracts: the Configs of a law: trees that may be. -/
import Derived.Test.YtckkcgkgfkgfdaaCB4
import Derived.Laws.Externs
set_option linter.unusedVariables false
set_option linter.unusedSimpArgs false
namespace Go.Proofs.Ytckkcgkgfkgfdaa.AM
open Ytckkcgkgfkgfdaa
set_option maxRecDepth 20000
def inTree (l : List Nod) (n : Int) : Bool := decide (0 ≤ n) && decide (n < l.length)
def climb (l : List Nod) : Nat → Int → List Int × Bool
  | 0, n => ([], !inTree l n)
  | k + 1, n => match inTree l n with
    | true => (n :: (climb l k (l.getD n.toNat dNod).par).1, (climb l k (l.getD n.toNat dNod).par).2)
    | false => ([], true)
theorem c63o {P : Program} (hP : Try.prog = P) (bs : Nat) (l : List Nod) (hl : l.length ≤ 1000000000000) (k : Nat) (hk : k = l.length) (n0 : Int) (nx : Nat) : ACalls P 63 [.own 1053 bs 2 0 k, .int false .i64 n0] [⟨1053, bs, .row 124 2 (.mlist 2 true true Nod eNod dNod l)⟩] nx (fun v o n => ∃ p f, v = .tup [.mlist 1 true false Int eI 0 p, .bool f] ∧ (p, f) = climb l 3 n0 ∧ o = [⟨1053, bs, .row 124 2 (.mlist 2 true true Nod eNod dNod l)⟩]) := by
  subst hP
  refine acalls_go (nm := []) (pl := []) (c := code Try.f63) tab_ok mixed Try.func63 (by kernel_rfl) (by kernel_rfl) (by kernel_rfl) ?_
  intro O P Q hO hP hQ
  have hsame : ∀ a, O.neq a a = true := fun a => by rw [← hO]; simp [real]
  obtain ⟨nadd, nsub, nmul, nquo, nrem, nbits, nshl, nshr, nwrap, nmax, nmin, nlt, nle, neq, nnot, nbeq, nband, ni2n, nn2i, ninb, nnadd, nnsub, nnle, nnlt, nneq, nlen, nget, nupd, napp, ntak, ndrp, nspl, nrep, nnth, nmlen, ncut, nemap, nslen, nsidx, nscut, nscat, nseq, nfcmp, ni2f⟩ := O
  replace hsame : ∀ a, nneq a a = true := hsame
  cbv
  try clear hI I
  try clear hμ μ
  obtain ⟨I, hI⟩ : ∃ I : St → Prop, I = (fun s => ∃ (c : Int) (m b : Nat) (n : Nat) (out : List Int) , s = ⟨[(0, .own 1053 bs 2 0 k), (1, .int false .i64 c), (6, .own 1022 b 1 0 m)], [⟨1022, b, .row 3 1 (.mlist 1 true true Int eI 0 out)⟩, ⟨1053, bs, .row 124 2 (.mlist 2 true true Nod eNod dNod l)⟩], n⟩ ∧ m = out.length ∧ m ≤ 3 ∧ climb l 3 n0 = (out ++ (climb l (3 - m) c).1, (climb l (3 - m) c).2)) := ⟨_, rfl⟩
  obtain ⟨μ, hμ⟩ : ∃ μ : St → Nat, μ = (fun s => match s.tm with | _ :: _ :: (_, .own _ _ _ _ m) :: _ => 3 - m | _ => 0) := ⟨_, rfl⟩
  refine ⟨[0, 1, 6], [1022, 1053], I, μ, ?_, ?_⟩
  · cbv
    simp only [real, Num.mk.injEq] at hO
    obtain ⟨rfl, rfl, rfl, rfl, rfl, rfl, rfl, rfl, rfl, rfl, rfl, rfl, rfl, rfl, rfl, rfl, rfl, rfl, rfl, rfl, rfl, rfl, rfl, rfl, rfl, rfl, rfl, rfl, rfl, rfl, rfl, rfl, rfl, rfl, rfl, rfl, rfl, rfl, rfl, rfl, rfl, rfl, rfl, rfl⟩ := hO
    subst hQ
    try subst hI
    try subst hμ
    clear hsame
    try dsimp only at *
    try simp only [nc] at *
    try simp only [Int.ofNat_eq_natCast, decide_eq_true_eq, decide_eq_false_iff_not, Bool.and_eq_true, beq_iff_eq, beq_eq_false_iff_ne, ne_eq, Bool.false_eq_true, reduceCtorEq, Nat.add_eq, Nat.sub_eq, Nat.blt_eq, Nat.ble_eq, Nat.zero_add, Nat.add_zero, Bool.not_eq_true', Bool.not_eq_false', fEnt, fRow, fNod, fSym] at *
    refine WI.sf (Sf.wk _ (TmW.cons (Wk.refl _) (TmW.cons (Wk.refl _) (TmW.cons (Wk.nil_own 1022 nx 1) .nil))) (ObW.refl _)) (WI.sf (Sf.virt _ _ _ 1022 (.row 3 1 (.mlist 1 true true Int eI 0 []))) (WI.now ⟨_, _, _, _, _, rfl, rfl, by decide, rfl⟩))
  · intro s₀ h₀
    rw [hI] at h₀
    obtain ⟨c, m, b, n, out, rfl, hm, h0, h1⟩ := h₀
    cbv
    repeat' (first | exact hsame _ | refine And.intro ?_ ?_ | (split <;> (rename_i hc; (try rw [hc]); (try cbv))))
    all_goals
      simp only [real, Num.mk.injEq] at hO
      obtain ⟨rfl, rfl, rfl, rfl, rfl, rfl, rfl, rfl, rfl, rfl, rfl, rfl, rfl, rfl, rfl, rfl, rfl, rfl, rfl, rfl, rfl, rfl, rfl, rfl, rfl, rfl, rfl, rfl, rfl, rfl, rfl, rfl, rfl, rfl, rfl, rfl, rfl, rfl, rfl, rfl, rfl, rfl, rfl, rfl⟩ := hO
      subst hQ
      try subst hI
      try subst hμ
      clear hsame
      try dsimp only at *
      try simp only [nc] at *
      try simp only [Int.ofNat_eq_natCast, decide_eq_true_eq, decide_eq_false_iff_not, Bool.and_eq_true, beq_iff_eq, beq_eq_false_iff_ne, ne_eq, Bool.false_eq_true, reduceCtorEq, Nat.add_eq, Nat.sub_eq, Nat.blt_eq, Nat.ble_eq, Nat.zero_add, Nat.add_zero, Bool.not_eq_true', Bool.not_eq_false', fEnt, fRow, fNod, fSym] at *
    all_goals try (first | omega | decide | (simp only [List.length_cons, List.length_nil, List.length_map, List.length_append, eqb_iff]; omega))
    · have hm3 : m = 3 := by omega
      subst hm3
      refine FQ.frz 1022 rfl ?_ ?_
      rotate_left
      simp only [tupOf, frz, frzs, isIt, eqb_self, cond_true, cond_false, cutSeq, delOb, show eqb 1022 1053 = false from rfl, show eqb 1053 1022 = false from rfl]
      rotate_right
      simp only [tupOf, frzC, frzCs, isIt, eqb_self, cond_true, cond_false, seqLe, real, List.append_nil, List.nil_append, List.mem_cons, List.not_mem_nil, or_false, forall_eq, List.cons_append, show eqb 1022 1053 = false from rfl, show eqb 1053 1022 = false from rfl]
      · simp; omega
      refine FQ.wk (Wk.tup (Wks.cons (Wk.recode (l' := out) (enc' := eI) (d' := (0 : Int)) ?_) (Wks.refl _))) (FQ.done ⟨_, _, rfl, ?_, rfl⟩)
      · simp [real, hm]
      · rw [h1]
        have : inTree l c = true := by simp [inTree]; omega
        simp [climb, this]
    · have hin : inTree l c = true := by simp [inTree]; omega
      obtain ⟨q, hq⟩ : ∃ q, 3 - m = q + 1 := ⟨2 - m, by omega⟩
      refine WD.sf (Sf.wk _ (TmW.refl _) (ObW.cons (WkO.eq (l := (out ++ [c]).map eI) (c' := .mlist 1 true true Int eI 0 (out ++ [c])) (congrArg some (app1 eI out c)) rfl) (ObW.refl _))) (WD.now ⟨_, _, _, _, _, rfl, by simp; omega, by omega, ?_⟩ ?_)
      · rw [h1, hq, show 3 - (m + 1) = q by omega]
        simp [climb, hin]
      · show 3 - (m + 1) < 3 - m
        omega
    all_goals
      have hin : inTree l c = false := by simp [inTree]; omega
      refine FQ.frz 1022 rfl ?_ ?_
      rotate_left
      simp only [tupOf, frz, frzs, isIt, eqb_self, cond_true, cond_false, cutSeq, delOb, show eqb 1022 1053 = false from rfl, show eqb 1053 1022 = false from rfl]
      rotate_right
      simp only [tupOf, frzC, frzCs, isIt, eqb_self, cond_true, cond_false, seqLe, real, List.append_nil, List.nil_append, List.mem_cons, List.not_mem_nil, or_false, forall_eq, List.cons_append, show eqb 1022 1053 = false from rfl, show eqb 1053 1022 = false from rfl]
      · simp; omega
      refine FQ.wk (Wk.tup (Wks.cons (Wk.recode (l' := out) (enc' := eI) (d' := (0 : Int)) ?_) (Wks.refl _))) (FQ.done ⟨_, _, rfl, ?_, rfl⟩)
      · simp [real, hm]
      · rw [h1]
        cases 3 - m <;> simp [climb, hin]
theorem c50o {P : Program} (hP : Try.prog = P) (bs : Nat) (l : List Nod) (hl : l.length ≤ 1000000000000) (k : Nat) (hk : k = l.length) (n0 : Int) (nx : Nat) : ACalls P 50 [.own 1053 bs 2 0 k, .int false .i64 n0] [⟨1053, bs, .row 124 2 (.mlist 2 true true Nod eNod dNod l)⟩] nx (fun v o n => ∃ p, v = .mlist 1 true false Int eI 0 p ∧ p = (climb l 3 n0).1 ∧ o = [⟨1053, bs, .row 124 2 (.mlist 2 true true Nod eNod dNod l)⟩]) := by
  subst hP
  refine acalls_go (nm := []) (pl := []) (c := code Try.f50) tab_ok mixed Try.func50 (by kernel_rfl) (by kernel_rfl) (by kernel_rfl) ?_
  intro O P Q hO hP hQ
  have hsame : ∀ a, O.neq a a = true := fun a => by rw [← hO]; simp [real]
  obtain ⟨nadd, nsub, nmul, nquo, nrem, nbits, nshl, nshr, nwrap, nmax, nmin, nlt, nle, neq, nnot, nbeq, nband, ni2n, nn2i, ninb, nnadd, nnsub, nnle, nnlt, nneq, nlen, nget, nupd, napp, ntak, ndrp, nspl, nrep, nnth, nmlen, ncut, nemap, nslen, nsidx, nscut, nscat, nseq, nfcmp, ni2f⟩ := O
  replace hsame : ∀ a, nneq a a = true := hsame
  cbv
  repeat' (first | exact hsame _ | refine And.intro ?_ ?_ | (refine (c63o hP bs l hl k hk n0 _).mono ?_; rintro _ _ _ ⟨p, f, rfl, hc, rfl⟩; cbv) | (split <;> (rename_i hc; (try rw [hc]); (try cbv))))
  all_goals
    simp only [real, Num.mk.injEq] at hO
    obtain ⟨rfl, rfl, rfl, rfl, rfl, rfl, rfl, rfl, rfl, rfl, rfl, rfl, rfl, rfl, rfl, rfl, rfl, rfl, rfl, rfl, rfl, rfl, rfl, rfl, rfl, rfl, rfl, rfl, rfl, rfl, rfl, rfl, rfl, rfl, rfl, rfl, rfl, rfl, rfl, rfl, rfl, rfl, rfl, rfl⟩ := hO
    subst hQ
    try subst hI
    try subst hμ
    clear hsame
    try dsimp only at *
    try simp only [nc] at *
    try simp only [Int.ofNat_eq_natCast, decide_eq_true_eq, decide_eq_false_iff_not, Bool.and_eq_true, beq_iff_eq, beq_eq_false_iff_ne, ne_eq, Bool.false_eq_true, reduceCtorEq, Nat.add_eq, Nat.sub_eq, Nat.blt_eq, Nat.ble_eq, Nat.zero_add, Nat.add_zero, Bool.not_eq_true', Bool.not_eq_false', fEnt, fRow, fNod, fSym] at *
  exact FQ.done ⟨p, rfl, by rw [← hc], rfl⟩
/-- A tree that may be, of few nodes. -/
structure OkTree (l : List Nod) : Prop where
  par : ∀ i, i < l.length → -1 ≤ (l.getD i dNod).par ∧ (l.getD i dNod).par < i
  cap : ∀ x ∈ l, 0 ≤ x.cap ∧ x.cap ≤ 4611686018427387904
  ends : ∀ i, i < l.length → (climb l 3 (i : Int)).2 = true
theorem ok_nil : OkTree [] := ⟨fun i hi => absurd hi (Nat.not_lt_zero i), fun x hx => absurd hx List.not_mem_nil, fun i hi => absurd hi (Nat.not_lt_zero i)⟩
theorem cap_ok (c : Int) : 0 ≤ IntKind.i64.wrap ((IntKind.u64.wrap c).tmod 4611686018427387905) ∧ IntKind.i64.wrap ((IntKind.u64.wrap c).tmod 4611686018427387905) ≤ 4611686018427387904 := by
  rw [wU', Int.tmod_eq_emod_of_nonneg (by omega), wI (by omega) (by omega)]
  omega
theorem climb_out (l : List Nod) (k : Nat) {n : Int} (h : inTree l n = false) : climb l k n = ([], true) := by
  cases k <;> simp [climb, h]
theorem climb_append (l : List Nod) (x : Nod) (hp : ∀ i, i < l.length → (l.getD i dNod).par < i) : ∀ (k : Nat) (n : Int), n < l.length → climb (l ++ [x]) k n = climb l k n
  | 0, n, hn => by
    simp only [climb, inTree, List.length_append, List.length_singleton]
    by_cases h : 0 ≤ n <;> simp [h] <;> omega
  | k + 1, n, hn => by
    by_cases h : 0 ≤ n
    · have h1 : inTree l n = true := by simp [inTree]; omega
      have h2 : inTree (l ++ [x]) n = true := by simp [inTree]; omega
      have e : (l ++ [x]).getD n.toNat dNod = l.getD n.toNat dNod := by
        rw [List.getD_eq_getElem?_getD, List.getD_eq_getElem?_getD, List.getElem?_append_left (by omega)]
      have hlt := hp n.toNat (by omega)
      simp only [climb, h1, h2, e]
      rw [climb_append l x hp k _ (by omega)]
    · have h1 : inTree l n = false := by simp [inTree]; omega
      have h2 : inTree (l ++ [x]) n = false := by simp [inTree]; omega
      rw [climb_out _ _ h1, climb_out _ _ h2]
theorem climb_short (l : List Nod) : ∀ (k : Nat) (n : Int), (climb l (k + 1) n).1.length ≤ k → (climb l k n).2 = true
  | 0, n, h => by
    simp only [climb] at h ⊢
    cases hi : inTree l n with
    | true => simp [hi] at h
    | false => rfl
  | k + 1, n, h => by
    cases hi : inTree l n with
    | true =>
      rw [climb] at h ⊢
      simp only [hi] at h ⊢
      exact climb_short l k _ (by simpa using h)
    | false => rw [climb_out _ _ hi]
theorem OkTree.snoc {l : List Nod} (h : OkTree l) (x : Nod) (h1 : -1 ≤ x.par) (h2 : x.par < l.length) (h3 : 0 ≤ x.cap ∧ x.cap ≤ 4611686018427387904) (h4 : x.par = -1 ∨ (climb l 3 x.par).1.length < 3) : OkTree (l ++ [x]) := by
  have e1 : ∀ i, i < l.length → (l ++ [x]).getD i dNod = l.getD i dNod := fun i hi => by
    rw [List.getD_eq_getElem?_getD, List.getD_eq_getElem?_getD, List.getElem?_append_left hi]
  have e2 : (l ++ [x]).getD l.length dNod = x := by simp [List.getD_eq_getElem?_getD]
  have hp : ∀ i, i < l.length → (l.getD i dNod).par < i := fun i hi => (h.par i hi).2
  refine ⟨fun i hi => ?_, fun y hy => ?_, fun i hi => ?_⟩
  · by_cases hlt : i < l.length
    · rw [e1 i hlt]
      exact h.par i hlt
    · have : i = l.length := by simp at hi; omega
      subst this
      rw [e2]
      exact ⟨h1, h2⟩
  · rcases List.mem_append.1 hy with hy | hy
    · exact h.cap y hy
    · simp at hy
      subst hy
      exact h3
  · by_cases hlt : i < l.length
    · rw [climb_append l x hp 3 i (by omega)]
      exact h.ends i hlt
    · have : i = l.length := by simp at hi; omega
      subst this
      have hin : inTree (l ++ [x]) (l.length : Int) = true := by simp [inTree]; omega
      rw [climb]
      simp only [hin]
      show (climb (l ++ [x]) 2 ((l ++ [x]).getD ((l.length : Int)).toNat dNod).par).2 = true
      rw [show ((l.length : Int)).toNat = l.length by omega, e2, climb_append l x hp 2 x.par h2]
      rcases h4 with h4 | h4
      · rw [climb_out]
        rw [h4]
        rfl
      · exact climb_short l 2 _ (Nat.lt_succ_iff.1 h4)
theorem c22 {P : Program} (hP : Try.prog = P) (gd fu : Bool) (l : List Nod) (hl : l.length < 9223372036854775807) (nx : Nat) : ACalls P 22 [.mlist 2 gd fu Nod eNod dNod l] [] nx (fun v o n => ∃ l', v = .mlist 2 true false Nod eNod dNod l' ∧ OkTree l' ∧ 1 ≤ l'.length ∧ l'.length ≤ 10 ∧ (l = [] → l' = [⟨-1, 1000⟩]) ∧ o = []) := by
  subst hP
  refine acalls_go (nm := []) (pl := []) (c := code Try.f22) tab_ok mixed Try.func22 (by kernel_rfl) (by kernel_rfl) (by kernel_rfl) ?_
  intro O P Q hO hP hQ
  have hsame : ∀ a, O.neq a a = true := fun a => by rw [← hO]; simp [real]
  obtain ⟨nadd, nsub, nmul, nquo, nrem, nbits, nshl, nshr, nwrap, nmax, nmin, nlt, nle, neq, nnot, nbeq, nband, ni2n, nn2i, ninb, nnadd, nnsub, nnle, nnlt, nneq, nlen, nget, nupd, napp, ntak, ndrp, nspl, nrep, nnth, nmlen, ncut, nemap, nslen, nsidx, nscut, nscat, nseq, nfcmp, ni2f⟩ := O
  replace hsame : ∀ a, nneq a a = true := hsame
  cbv
  try clear hI I
  try clear hμ μ
  obtain ⟨I, hI⟩ : ∃ I : St → Prop, I = (fun s => ∃ (m b : Nat) (i : Int) (n : Nat) (out : List Nod) , s = ⟨[(0, .mlist 2 gd fu Nod eNod dNod l), (3, .own 1053 b 2 0 m), (4, .int false .i64 i)], [⟨1053, b, .row 124 2 (.mlist 2 true true Nod eNod dNod out)⟩], n⟩ ∧ m = out.length ∧ i = m ∧ m ≤ 10 ∧ m ≤ l.length ∧ OkTree out) := ⟨_, rfl⟩
  obtain ⟨μ, hμ⟩ : ∃ μ : St → Nat, μ = (fun s => match s.tm with | _ :: (_, .own _ _ _ _ m) :: _ => 10 - m | _ => 0) := ⟨_, rfl⟩
  refine ⟨[0, 3, 4], [1053], I, μ, ?_, ?_⟩
  · cbv
    simp only [real, Num.mk.injEq] at hO
    obtain ⟨rfl, rfl, rfl, rfl, rfl, rfl, rfl, rfl, rfl, rfl, rfl, rfl, rfl, rfl, rfl, rfl, rfl, rfl, rfl, rfl, rfl, rfl, rfl, rfl, rfl, rfl, rfl, rfl, rfl, rfl, rfl, rfl, rfl, rfl, rfl, rfl, rfl, rfl, rfl, rfl, rfl, rfl, rfl, rfl⟩ := hO
    subst hQ
    try subst hI
    try subst hμ
    clear hsame
    try dsimp only at *
    try simp only [nc] at *
    try simp only [Int.ofNat_eq_natCast, decide_eq_true_eq, decide_eq_false_iff_not, Bool.and_eq_true, beq_iff_eq, beq_eq_false_iff_ne, ne_eq, Bool.false_eq_true, reduceCtorEq, Nat.add_eq, Nat.sub_eq, Nat.blt_eq, Nat.ble_eq, Nat.zero_add, Nat.add_zero, Bool.not_eq_true', Bool.not_eq_false', fEnt, fRow, fNod, fSym] at *
    refine WI.sf (Sf.wk _ (TmW.cons (Wk.refl _) (TmW.cons (Wk.nil_own 1053 nx 2) (TmW.cons (Wk.refl _) .nil))) (ObW.refl _)) (WI.sf (Sf.virt _ _ _ 1053 (.row 124 2 (.mlist 2 true true Nod eNod dNod []))) (WI.now ⟨0, _, _, _, [], rfl, rfl, rfl, by decide, Nat.zero_le _, ok_nil⟩))
  · intro s₀ h₀
    rw [hI] at h₀
    obtain ⟨m, b, i, n, out, rfl, hm, hi, h0, hml, ht⟩ := h₀
    cbv
    have hout : out.length ≤ 1000000000000 := by omega
    repeat' (first | exact hsame _ | refine And.intro ?_ ?_ | (refine (c50o hP b out hout m hm _ _).frame [1053] ?_; rintro _ _ _ ⟨p, rfl, hp, rfl⟩; cbv) | (split <;> (rename_i hc; (try rw [hc]); (try cbv))))
    all_goals
      simp only [real, Num.mk.injEq] at hO
      obtain ⟨rfl, rfl, rfl, rfl, rfl, rfl, rfl, rfl, rfl, rfl, rfl, rfl, rfl, rfl, rfl, rfl, rfl, rfl, rfl, rfl, rfl, rfl, rfl, rfl, rfl, rfl, rfl, rfl, rfl, rfl, rfl, rfl, rfl, rfl, rfl, rfl, rfl, rfl, rfl, rfl, rfl, rfl, rfl, rfl⟩ := hO
      subst hQ
      try subst hI
      try subst hμ
      clear hsame
      try dsimp only at *
      try simp only [nc] at *
      try simp only [Int.ofNat_eq_natCast, decide_eq_true_eq, decide_eq_false_iff_not, Bool.and_eq_true, beq_iff_eq, beq_eq_false_iff_ne, ne_eq, Bool.false_eq_true, reduceCtorEq, Nat.add_eq, Nat.sub_eq, Nat.blt_eq, Nat.ble_eq, Nat.zero_add, Nat.add_zero, Bool.not_eq_true', Bool.not_eq_false', fEnt, fRow, fNod, fSym] at *
    all_goals try (first | omega | decide | (simp only [List.length_cons, List.length_nil, List.length_map, List.length_append, eqb_iff]; omega))
    · refine WD.sf (Sf.wk _ (TmW.refl _) (ObW.cons (WkO.row (c' := .mlist 2 true true Nod eNod dNod (out ++ [⟨-1, _⟩])) rfl rfl (app1w out ⟨-1, _⟩ (unl_wk _))) .nil)) (WD.now ⟨_, _, _, _, _, rfl, by simp; omega, by rw [wI (by omega) (by omega)]; omega, by omega, by omega, ht.snoc _ ?_ ?_ (cap_ok _) ?_⟩ (show 10 - (m + 1) < 10 - m by omega))
      · exact Int.le_refl _
      · show (-1 : Int) < _
        omega
      · exact .inl rfl
    · have hmod : 0 ≤ (l.getD i.toNat dNod).par.tmod i ∧ (l.getD i.toNat dNod).par.tmod i < i := by
        have h1 : 0 ≤ (l.getD i.toNat dNod).par := of_decide_eq_true (by assumption)
        rw [Int.tmod_eq_emod_of_nonneg h1]
        exact ⟨Int.emod_nonneg _ (by omega), Int.emod_lt_of_pos _ (by omega)⟩
      refine WD.sf (Sf.wk _ (TmW.refl _) (ObW.cons (WkO.row (c' := .mlist 2 true true Nod eNod dNod (out ++ [⟨(l.getD i.toNat dNod).par.tmod i, _⟩])) rfl rfl (app1w out ⟨(l.getD i.toNat dNod).par.tmod i, _⟩ (unl_wk _))) .nil)) (WD.now ⟨_, _, _, _, _, rfl, by simp; omega, by rw [wI (by omega) (by omega)]; omega, by omega, by omega, ht.snoc _ ?_ ?_ (cap_ok _) ?_⟩ (show 10 - (m + 1) < 10 - m by omega))
      · show (-1 : Int) ≤ (l.getD i.toNat dNod).par.tmod i
        omega
      · show (l.getD i.toNat dNod).par.tmod i < _
        omega
      · refine .inr ?_
        show (climb out 3 ((l.getD i.toNat dNod).par.tmod i)).1.length < 3
        rw [← hp]
        omega
    · refine WD.sf (Sf.wk _ (TmW.refl _) (ObW.cons (WkO.row (c' := .mlist 2 true true Nod eNod dNod (out ++ [⟨-1, _⟩])) rfl rfl (app1w out ⟨-1, _⟩ (unl_wk _))) .nil)) (WD.now ⟨_, _, _, _, _, rfl, by simp; omega, by rw [wI (by omega) (by omega)]; omega, by omega, by omega, ht.snoc _ ?_ ?_ (cap_ok _) ?_⟩ (show 10 - (m + 1) < 10 - m by omega))
      · exact Int.le_refl _
      · show (-1 : Int) < _
        omega
      · exact .inl rfl
    · refine WD.sf (Sf.wk _ (TmW.refl _) (ObW.cons (WkO.row (c' := .mlist 2 true true Nod eNod dNod (out ++ [⟨-1, _⟩])) rfl rfl (app1w out ⟨-1, _⟩ (unl_wk _))) .nil)) (WD.now ⟨_, _, _, _, _, rfl, by simp; omega, by rw [wI (by omega) (by omega)]; omega, by omega, by omega, ht.snoc _ ?_ ?_ (cap_ok _) ?_⟩ (show 10 - (m + 1) < 10 - m by omega))
      · exact Int.le_refl _
      · show (-1 : Int) < _
        omega
      · exact .inl rfl
    · refine FQ.frz 1053 rfl ?_ ?_
      rotate_left
      simp only [tupOf, frz, frzs, isIt, eqb_self, cond_true, cond_false, cutSeq, delOb]
      rotate_right
      simp only [tupOf, frzC, frzCs, isIt, eqb_self, cond_true, cond_false, seqLe, real, List.append_nil, List.nil_append, List.mem_cons, List.not_mem_nil, or_false, forall_eq, List.cons_append]
      · simp; omega
      refine FQ.wk (Wk.recode (l' := out) (enc' := eNod) (d' := dNod) ?_) (FQ.forget (FQ.done ⟨out, rfl, ht, by omega, by omega, fun e => (by subst e; simp only [List.length_nil] at hml; omega), rfl⟩))
      simp [real, hm]
    · refine FQ.frz 1058 rfl ?_ ?_
      rotate_left
      simp only [tupOf, frz, frzs, isIt, eqb_self, cond_true, cond_false, cutSeq, delOb, show eqb 1058 1053 = false from rfl, show eqb 1053 1058 = false from rfl]
      rotate_right
      simp only [tupOf, frzC, frzCs, isIt, eqb_self, cond_true, cond_false, seqLe, real, List.append_nil, List.nil_append, List.mem_cons, List.not_mem_nil, or_false, forall_eq, List.cons_append, show eqb 1058 1053 = false from rfl, show eqb 1053 1058 = false from rfl]
      · simp
      refine FQ.wk (Wk.mlist_els (l := [⟨-1, 1000⟩]) (enc := eNod) (d := dNod) (Wks.cons (unl_wk _) Wks.nil)) (FQ.forget (FQ.done ⟨_, rfl, ?_, by decide, by decide, fun _ => rfl, rfl⟩))
      exact ok_nil.snoc ⟨-1, 1000⟩ (by decide) (by decide) (by decide) (.inl rfl)
    · refine FQ.frz 1053 rfl ?_ ?_
      rotate_left
      simp only [tupOf, frz, frzs, isIt, eqb_self, cond_true, cond_false, cutSeq, delOb]
      rotate_right
      simp only [tupOf, frzC, frzCs, isIt, eqb_self, cond_true, cond_false, seqLe, real, List.append_nil, List.nil_append, List.mem_cons, List.not_mem_nil, or_false, forall_eq, List.cons_append]
      · simp; omega
      refine FQ.wk (Wk.recode (l' := out) (enc' := eNod) (d' := dNod) ?_) (FQ.forget (FQ.done ⟨out, rfl, ht, by omega, by omega, fun e => (by subst e; simp only [List.length_nil] at hml; omega), rfl⟩))
      simp [real, hm]
end Go.Proofs.Ytckkcgkgfkgfdaa.AM
