/- The trees that the reference's Fix makes are trees that may be. Plain theorems; no condition. -/
import Derived.Test.YtnodcekkbbmfnaaTree2
namespace Go.Proofs.Ytnodcekkbbmfnaa.Tree
open Go.RowKit Go.Proofs.Ytnodcekkbbmfnaa.K
set_option linter.unusedVariables false

/-! ### the trees that Fix makes -/
theorem u64_mod (c : Int) : 0 ≤ IntKind.u64.wrap c ∧ IntKind.u64.wrap c < 18446744073709551616 := by
  have e : IntKind.u64.wrap c = c % 18446744073709551616 := by rfl
  rw [e]; omega
theorem capFix_range (c : Int) : 0 ≤ capFix c ∧ capFix c ≤ 4611686018427387904 := by
  have h := u64_mod c
  unfold capFix
  have e : (IntKind.u64.wrap c).tmod 4611686018427387905 = IntKind.u64.wrap c % 4611686018427387905 := Int.tmod_eq_emod_of_nonneg h.1
  rw [e, wrap_in (by omega) (by omega)]
  omega
/-- Each node hangs on none, or on one ahead of it, and a path has three nodes at most. -/
structure Fine (l : List Node) : Prop where
  ok : ∀ i : Nat, i < l.length → wrongF (nd l i) l.length = 0
  up : ∀ i : Nat, i < l.length → (nd l i).parent < i
  ends : ∀ i : Nat, i < l.length → ends l 3 i = true

theorem nd_app (l : List Node) (x : Node) (i : Int) (h0 : 0 ≤ i) (h : i < l.length) : nd (l ++ [x]) i = nd l i := by
  unfold nd
  rw [List.getD_eq_getElem?_getD, List.getD_eq_getElem?_getD, List.getElem?_append_left (by omega)]
theorem nd_last (l : List Node) (x : Node) : nd (l ++ [x]) (l.length : Int) = x := by simp [nd]
/-- The way up from a node of the elder part. -/
theorem climb_app (l : List Node) (x : Node) (hup : ∀ i : Nat, i < l.length → (nd l i).parent < i) : ∀ k (n : Int), n < l.length → climbF (l ++ [x]) k n = climbF l k n := by
  intro k
  induction k with
  | zero =>
    intro n hn
    by_cases h : 0 ≤ n
    · rw [climb_full ⟨h, by simp; omega⟩, climb_full ⟨h, hn⟩]
    · rw [climb_out (by omega), climb_out (by omega)]
  | succ k ih =>
    intro n hn
    by_cases h : 0 ≤ n
    · have hp := hup n.toNat (by omega)
      rw [show ((n.toNat : Nat) : Int) = n by omega] at hp
      rw [climb_more ⟨h, by simp; omega⟩, climb_more ⟨h, hn⟩, nd_app l x n h hn, ih _ (by omega)]
    · rw [climb_out (by omega), climb_out (by omega)]
theorem ends_app (l : List Node) (x : Node) (hup : ∀ i : Nat, i < l.length → (nd l i).parent < i) (hok : ∀ j : Nat, j < l.length → (nd l j).parent = -1 ∨ 0 ≤ (nd l j).parent ∧ (nd l j).parent < l.length) :
    ∀ k (n : Int), 0 ≤ n → n < l.length → ends (l ++ [x]) k n = ends l k n := by
  intro k
  induction k with
  | zero => intro n _ _; rfl
  | succ k ih =>
    intro n h0 hn
    show ((nd (l ++ [x]) n).parent == -1 || ends (l ++ [x]) k (nd (l ++ [x]) n).parent) = ((nd l n).parent == -1 || ends l k (nd l n).parent)
    rw [nd_app l x n h0 hn]
    have h := hok n.toNat (by omega)
    rw [show ((n.toNat : Nat) : Int) = n by omega] at h
    rcases h with h | ⟨h1, h2⟩
    · rw [h]; rfl
    · rw [ih _ h1 h2]
theorem wrongF_more {n : Node} {m m' : Int} (h : wrongF n m = 0) (hm : m ≤ m') : wrongF n m' = 0 := by
  have := wrongF_ok h
  exact wrongF_0 (by omega) (by omega)
/-- From a node whose path is shorter than three nodes the way ends one step earlier. -/
theorem ends_of_len {l : List Node} (hok : ∀ j : Nat, j < l.length → (nd l j).parent = -1 ∨ 0 ≤ (nd l j).parent ∧ (nd l j).parent < l.length) : ∀ k (n : Int), 0 ≤ n → n < l.length → (climbF l (k + 1) n).1.length ≤ k → ends l k n = true
  | 0, n, h0, h1, h => by rw [climb_more ⟨h0, h1⟩] at h; simp at h
  | k + 1, n, h0, h1, h => by
    rw [climb_more ⟨h0, h1⟩] at h
    simp only [List.length_cons] at h
    show ((nd l n).parent == -1 || ends l k (nd l n).parent) = true
    have hp := hok n.toNat (by omega)
    rw [show ((n.toNat : Nat) : Int) = n by omega] at hp
    rcases hp with hp | ⟨h2, h3⟩
    · rw [hp]; rfl
    · rw [ends_of_len hok k _ h2 h3 (by omega), Bool.or_true]

theorem fixN_len (l : List Node) : ∀ i, (fixN l i).length = i
  | 0 => rfl
  | i + 1 => by rw [fixN, List.length_append, fixN_len l i]; rfl
theorem Fine.par {l : List Node} (h : Fine l) : ∀ j : Nat, j < l.length → (nd l j).parent = -1 ∨ 0 ≤ (nd l j).parent ∧ (nd l j).parent < l.length := fun j hj => (wrongF_ok (h.ok j hj)).1
theorem fixN_fine (l : List Node) : ∀ i, Fine (fixN l i)
  | 0 => ⟨fun i hi => absurd hi (by simp [fixN]), fun i hi => absurd hi (by simp [fixN]), fun i hi => absurd hi (by simp [fixN])⟩
  | i + 1 => by
    have ih := fixN_fine l i
    have hl := fixN_len l i
    rw [fixN]
    generalize hm : fixN l i = m at *
    have hx : (fixOne l m i).parent = -1 ∨ (0 ≤ (fixOne l m i).parent ∧ (fixOne l m i).parent < i ∧ (pathF m (fixOne l m i).parent).length < 3) := by
      unfold fixOne
      split
      · split
        · exact .inl rfl
        · rename_i h h'
          refine .inr ⟨Int.emod_nonneg _ (by omega), Int.emod_lt_of_pos _ (by omega), by dsimp only; omega⟩
      · exact .inl rfl
    have hc : 0 ≤ (fixOne l m i).cap ∧ (fixOne l m i).cap ≤ 4611686018427387904 := by
      have h := capFix_range (nd l i).cap
      unfold fixOne
      split
      · split <;> exact h
      · exact h
    generalize fixOne l m i = x at *
    have hlen : (m ++ [x]).length = i + 1 := by simp [hl]
    refine ⟨fun j hj => ?_, fun j hj => ?_, fun j hj => ?_⟩
    · by_cases h : j < m.length
      · rw [nd_app m x j (by omega) (by omega)]
        exact wrongF_more (ih.ok j h) (by omega)
      · obtain rfl : j = m.length := by omega
        rw [nd_last]
        exact wrongF_0 (by omega) (by omega)
    · by_cases h : j < m.length
      · rw [nd_app m x j (by omega) (by omega)]
        exact ih.up j h
      · obtain rfl : j = m.length := by omega
        rw [nd_last]; omega
    · by_cases h : j < m.length
      · rw [ends_app m x ih.up ih.par 3 j (by omega) (by omega)]
        exact ih.ends j h
      · obtain rfl : j = m.length := by omega
        show ((nd (m ++ [x]) m.length).parent == -1 || ends (m ++ [x]) 2 (nd (m ++ [x]) m.length).parent) = true
        rw [nd_last]
        rcases hx with hx | ⟨h0, h1, h2⟩
        · rw [hx]; rfl
        · rw [ends_app m x ih.up ih.par 2 _ h0 (by omega), ends_of_len ih.par 2 _ h0 (by omega) (by unfold pathF at h2; exact Nat.le_of_lt_succ h2), Bool.or_true]
theorem Fine.check {l : List Node} (h : Fine l) (h0 : l.length ≠ 0) (h1 : l.length ≤ 32) : checkF l = (0, -1) := by
  refine checkF_ok h0 h1 ?_ ?_
  · have : ∀ d i, l.length - i = d → firstFrom (fun n => wrongF n l.length) l i = none := by
      intro d
      induction d with
      | zero => intro i hi; exact firstFrom_end (by omega)
      | succ d ih => intro i hi; rw [firstFrom_next (by omega) (h.ok i (by omega))]; exact ih _ (by omega)
    exact this _ 0 rfl
  · have : ∀ d i, l.length - i = d → longFrom l i = none := by
      intro d
      induction d with
      | zero => intro i hi; exact longFrom_end (by omega)
      | succ d ih => intro i hi; rw [longFrom_next (by omega) (h.ends i (by omega))]; exact ih _ (by omega)
    exact this _ 0 rfl
theorem fixF_fine (l : List Node) : Fine (fixF l) ∧ (fixF l).length ≠ 0 ∧ (fixF l).length ≤ 10 := by
  unfold fixF
  by_cases h : l.length = 0
  · rw [if_pos h]
    refine ⟨⟨fun i hi => ?_, fun i hi => ?_, fun i hi => ?_⟩, by decide, by decide⟩ <;> (obtain rfl : i = 0 := by simp at hi; omega) <;> decide
  · rw [if_neg h]
    refine ⟨fixN_fine l _, ?_, ?_⟩ <;> rw [fixN_len] <;> omega

/-- A path goes from each node to the one it hangs on, up to one that hangs on none. -/
structure Chain (l : List Node) (p : List Int) : Prop where
  mem : ∀ i, i < p.length → 0 ≤ iat p i ∧ iat p i < l.length
  next : ∀ i, i + 1 < p.length → (nd l (iat p i)).parent = iat p (i + 1)
  last : ∀ i, i + 1 = p.length → (nd l (iat p i)).parent = -1
theorem iat_cons (x : Int) (p : List Int) (i : Nat) : iat (x :: p) (i + 1) = iat p i := by simp [iat]
theorem climb_chain {l : List Node} (hok : ∀ j : Nat, j < l.length → (nd l j).parent = -1 ∨ 0 ≤ (nd l j).parent ∧ (nd l j).parent < l.length) : ∀ k (n : Int), 0 ≤ n → n < l.length → ends l k n = true → Chain l (climbF l k n).1 ∧ ∃ r, (climbF l k n).1 = n :: r
  | 0, n, _, _, h => by cases h
  | k + 1, n, h0, h1, h => by
    rw [climb_more ⟨h0, h1⟩]
    have h' : ((nd l n).parent == -1 || ends l k (nd l n).parent) = true := h
    have hp := hok n.toNat (by omega)
    rw [show ((n.toNat : Nat) : Int) = n by omega] at hp
    rcases hp with hp | ⟨h2, h3⟩
    · rw [hp, climb_out (by omega)]
      refine ⟨⟨fun i hi => ?_, fun i hi => ?_, fun i hi => ?_⟩, [], rfl⟩
      · obtain rfl : i = 0 := by simp at hi; omega
        exact ⟨h0, h1⟩
      · simp at hi
      · obtain rfl : i = 0 := by simp at hi; omega
        exact hp
    · have he : ends l k (nd l n).parent = true := by
        rw [beq_eq_false_iff_ne.2 (by omega), Bool.false_or] at h'; exact h'
      obtain ⟨hc, r, hr⟩ := climb_chain hok k _ h2 h3 he
      dsimp only
      rw [hr] at hc ⊢
      refine ⟨⟨fun i hi => ?_, fun i hi => ?_, fun i hi => ?_⟩, _, rfl⟩
      · cases i with
        | zero => exact ⟨h0, h1⟩
        | succ i => rw [iat_cons]; exact hc.mem i (by simpa using hi)
      · cases i with
        | zero => rfl
        | succ i => rw [iat_cons, iat_cons]; exact hc.next i (by simpa using hi)
      · cases i with
        | zero => simp at hi
        | succ i => rw [iat_cons]; exact hc.last i (by simpa using hi)
theorem Fine.chain {l : List Node} (h : Fine l) (n : Int) : Chain l (pathF l n) := by
  unfold pathF
  by_cases hn : 0 ≤ n ∧ n < l.length
  · have he := h.ends n.toNat (by omega)
    rw [show ((n.toNat : Nat) : Int) = n by omega] at he
    exact (climb_chain h.par 3 n hn.1 hn.2 he).1
  · rw [climb_out hn]
    exact ⟨fun i hi => absurd hi (by simp), fun i hi => absurd hi (by simp), fun i hi => absurd hi (by simp)⟩

end Go.Proofs.Ytnodcekkbbmfnaa.Tree
