/- The sum and the difference of two numbers of 64 bits as package fixed tells them are the reference's, and back again it is as it was. No condition. -/
import Derived.Test.YtnodcekkbbmfnaaPFixedSumsx2
namespace Go.Proofs.Ytnodcekkbbmfnaa.Pure
open Go.RowKit Go.Proofs.Ytnodcekkbbmfnaa.PFixedSums Go.Proofs.YtnodcekkbbmfnaaW.PrintWords Go.Proofs.YtnodcekkbbmfnaaW.PrintLast

def fits (n : Int) : Prop := -9223372036854775808 ≤ n ∧ n ≤ 9223372036854775807
instance (n : Int) : Decidable (fits n) := by unfold fits; infer_instance

theorem wrap_in {n : Int} (h : fits n) : wrap64 n = n := by
  unfold fits at h
  unfold wrap64
  omega
theorem wrap_fits (n : Int) : fits (wrap64 n) := by
  unfold wrap64 fits
  omega
theorem wrap_off (n : Int) : ∃ m : Int, wrap64 n = n + m * 18446744073709551616 := by
  unfold wrap64
  exact ⟨-((n + 9223372036854775808) / 18446744073709551616), by omega⟩

/-- What a product of numbers of 64 bits is told to be. -/
def mulT (a b : Int) : Int × Bool := if fits (a * b) then (a * b, true) else (0, false)

theorem mul_back (a b : Int) (hb : b ≠ 0) : Int.tdiv (a * b) b = a := Int.mul_tdiv_cancel a hb

theorem tdiv_bound (w b : Int) (hw : fits w) (hb : b ≠ 0) (hs : ¬ (w = -9223372036854775808 ∧ b = -1)) : fits (Int.tdiv w b) := by
  have h1 : (Int.tdiv w b).natAbs = w.natAbs / b.natAbs := Int.natAbs_tdiv w b
  have h2 : w.natAbs / b.natAbs ≤ w.natAbs := Nat.div_le_self _ _
  unfold fits at *
  by_cases hw' : w = -9223372036854775808
  · by_cases hb1 : b = 1
    · subst hb1; rw [Int.tdiv_one]; omega
    · have hb2 : 2 ≤ b.natAbs := by omega
      have h3 : w.natAbs / b.natAbs ≤ w.natAbs / 2 := Nat.div_le_div_left hb2 (by omega)
      omega
  · omega

theorem no_fit (a b : Int) (hb : fits b) (hb0 : b ≠ 0) (hn : ¬ fits (a * b)) (h : wrap64 (Int.tdiv (wrap64 (a * b)) b) = a) : a = -9223372036854775808 ∧ b = -1 ∧ wrap64 (a * b) = a := by
  have hwf := wrap_fits (a * b)
  by_cases hs : wrap64 (a * b) = -9223372036854775808 ∧ b = -1
  · obtain ⟨h1, h2⟩ := hs
    have h3 : Int.tdiv (wrap64 (a * b)) b = 9223372036854775808 := by rw [h1, h2]; decide
    rw [h3] at h
    have h4 : wrap64 9223372036854775808 = -9223372036854775808 := by unfold wrap64; omega
    omega
  · rw [wrap_in (tdiv_bound _ b hwf hb0 hs)] at h
    obtain ⟨m, hm⟩ := wrap_off (a * b)
    have h5 := Int.mul_tdiv_add_tmod (wrap64 (a * b)) b
    rw [h] at h5
    have h6 : (Int.tmod (wrap64 (a * b)) b).natAbs < b.natAbs := by
      rw [Int.natAbs_tmod]
      exact Nat.mod_lt _ (by omega)
    rw [Int.mul_comm b a] at h5
    have hm0 : m ≠ 0 := by
      intro e
      subst e
      apply hn
      rw [show a * b = wrap64 (a * b) by rw [hm]; omega]
      exact hwf
    generalize a * b = p at *
    generalize wrap64 p = w at *
    generalize Int.tmod w b = r at *
    unfold fits at *
    exfalso
    rcases Int.lt_or_gt_of_ne hm0 with hlt | hgt <;> omega

theorem mulJ (k : Nat) (a b : Int) (ha : fits a) (hb : fits b) (ha0 : a ≠ 0) (hb0 : b ≠ 0) : fixed_Mul.j0 (k + 1) a b false = some (mulT a b) := by
  rw [fixed_Mul.j0, if_neg (by decide), if_neg hb0]
  unfold mulT
  by_cases hf : fits (a * b)
  · have hw := wrap_in hf
    rw [if_pos hf, hw, mul_back a b hb0, wrap_in ha, if_pos rfl]
    by_cases h1 : a = -1
    · subst h1
      rw [if_pos rfl]
      have : ¬ ((-1 : Int) * b = b) := by omega
      rw [if_neg this]
      by_cases h2 : b = -1
      · subst h2; rw [if_pos rfl]; rfl
      · rw [if_neg h2]
    · rw [if_neg h1]
      by_cases h2 : b = -1
      · subst h2
        rw [if_pos rfl]
        have : ¬ (a * -1 = a) := by omega
        rw [if_neg this]
      · rw [if_neg h2]
  · rw [if_neg hf]
    by_cases h : wrap64 (Int.tdiv (wrap64 (a * b)) b) = a
    · obtain ⟨h1, h2, h3⟩ := no_fit a b hb hb0 hf h
      rw [if_pos h, if_neg (by omega), if_pos h2, if_pos h3]
    · rw [if_neg h]

theorem mulF (k : Nat) (a b : Int) (ha : fits a) (hb : fits b) : fixed_Mul.f (k + 1) a b = some (mulT a b) := by
  unfold fixed_Mul.f
  by_cases ha0 : a = 0
  · rw [if_pos ha0]; subst ha0
    simp [fixed_Mul.j0, mulT, fits]
  · rw [if_neg ha0]
    by_cases hb0 : b = 0
    · subst hb0
      simp [fixed_Mul.j0, mulT, fits]
    · rw [show (b == 0) = false by simp [hb0]]
      exact mulJ k a b ha hb ha0 hb0

theorem tellF (k : Nat) : stopgatelaw01_told.f (k + 1) = some true := by
  unfold stopgatelaw01_told.f fixed_Notional.f
  rw [mulF k _ _ (by decide) (by decide), mulF k _ _ (by decide) (by decide), mulF k 7 6 (by decide) (by decide)]
  decide

theorem wf_fits {n : Int} (h : (Lit.int .i64 n).wf = true) : fits n := by
  have h' : (decide (IntKind.i64.min ≤ n) && decide (n ≤ IntKind.i64.max)) = true := h
  have e1 : IntKind.i64.min = -9223372036854775808 := by decide
  have e2 : IntKind.i64.max = 9223372036854775807 := by decide
  rw [e1, e2] at h'
  simp only [Bool.and_eq_true, decide_eq_true_eq] at h'
  exact h'

/-- What a sum, a difference is told to be. -/
def tells (n : Int) : Int × Bool := if fits n then (n, true) else (0, false)
theorem tells_yes {n : Int} (h : fits n) : tells n = (n, true) := if_pos h
theorem tells_no {n : Int} (h : ¬ fits n) : tells n = (0, false) := if_neg h
theorem fits_def (n : Int) : fits n ↔ -9223372036854775808 ≤ n ∧ n ≤ 9223372036854775807 := Iff.rfl
theorem wrap_cases (n : Int) (h : -18446744073709551616 ≤ n ∧ n ≤ 18446744073709551615) : wrap64 n = n ∨ (n > 9223372036854775807 ∧ wrap64 n = n - 18446744073709551616) ∨ (n < -9223372036854775808 ∧ wrap64 n = n + 18446744073709551616) := by
  unfold wrap64; omega

theorem tells_fits (n : Int) : fits (tells n).1 := by
  by_cases hf : fits n
  · rw [tells_yes hf]; exact hf
  · rw [tells_no hf]; exact ⟨by decide, by decide⟩

theorem addF (a b : Int) (ha : fits a) (hb : fits b) : fixed_Add.f a b = some (tells (a + b)) := by
  unfold fixed_Add.f
  have ha' := (fits_def a).1 ha
  have hb' := (fits_def b).1 hb
  have hw := wrap_cases (a + b) (by omega)
  have hf := (fits_def _).1 (wrap_fits (a + b))
  by_cases h0 : b > 0 <;> by_cases h1 : wrap64 (a + b) > a <;> by_cases hn : fits (a + b)
  all_goals
    first | rw [tells_yes hn] | rw [tells_no hn]
    rw [fits_def] at hn
    first
      | (exfalso; omega)
      | (rw [if_neg (by simp [h0, h1])]; congr 2; omega)
      | (rw [if_pos (by simp [h0, h1]), if_neg (by omega)])
      | (rw [if_pos (by simp [h0, h1]), if_pos (by omega)]; congr 2; omega)

theorem subF (a b : Int) (ha : fits a) (hb : fits b) : fixed_Sub.f a b = some (tells (a - b)) := by
  unfold fixed_Sub.f
  have ha' := (fits_def a).1 ha
  have hb' := (fits_def b).1 hb
  have hw := wrap_cases (a - b) (by omega)
  have hf := (fits_def _).1 (wrap_fits (a - b))
  by_cases h0 : b > 0 <;> by_cases h1 : wrap64 (a - b) < a <;> by_cases hn : fits (a - b)
  all_goals
    first | rw [tells_yes hn] | rw [tells_no hn]
    rw [fits_def] at hn
    first
      | (exfalso; omega)
      | (rw [if_neg (by simp [h0, h1])]; congr 2; omega)
      | (rw [if_pos (by simp [h0, h1]), if_neg (by omega)])
      | (rw [if_pos (by simp [h0, h1]), if_pos (by omega)]; congr 2; omega)

theorem refAddF (a b : Int) (ha : fits a) (hb : fits b) : stopgateref01_Add.f a b = some (tells (a + b)) := by
  unfold stopgateref01_Add.f
  have ha' := (fits_def a).1 ha
  have hb' := (fits_def b).1 hb
  have hw := wrap_cases (a + b) (by omega)
  have e1 : b > 0 → wrap64 (9223372036854775807 - b) = 9223372036854775807 - b := fun _ => by unfold wrap64; omega
  have e2 : b < 0 → wrap64 (-9223372036854775808 - b) = -9223372036854775808 - b := fun _ => by unfold wrap64; omega
  by_cases hn : fits (a + b)
  all_goals
    first | rw [tells_yes hn] | rw [tells_no hn]
    rw [fits_def] at hn
    repeat' split
    all_goals first | (exfalso; omega) | rfl | (congr 2; omega)

theorem refSubF (a b : Int) (ha : fits a) (hb : fits b) : stopgateref01_Sub.f a b = some (tells (a - b)) := by
  unfold stopgateref01_Sub.f
  have ha' := (fits_def a).1 ha
  have hb' := (fits_def b).1 hb
  have hw := wrap_cases (a - b) (by omega)
  have e1 : b < 0 → wrap64 (9223372036854775807 + b) = 9223372036854775807 + b := fun _ => by unfold wrap64; omega
  have e2 : b > 0 → wrap64 (-9223372036854775808 + b) = -9223372036854775808 + b := fun _ => by unfold wrap64; omega
  by_cases hn : fits (a - b)
  all_goals
    first | rw [tells_yes hn] | rw [tells_no hn]
    rw [fits_def] at hn
    repeat' split
    all_goals first | (exfalso; omega) | rfl | (congr 2; omega)

theorem FixedSums : stopgatelaw01_FixedSums.Pure := by
  intro a b ha hb
  have ha := wf_fits ha
  have hb := wf_fits hb
  refine ⟨1, ?_⟩
  unfold stopgatelaw01_FixedSums.f
  rw [addF a b ha hb, refAddF a b ha hb, subF a b ha hb, refSubF a b ha hb, tellF 0]
  simp only [Option.bind_some, if_true]
  rw [show ((tells (a + b)).2 != (tells (a + b)).2) = false by simp, show ((tells (a - b)).2 != (tells (a - b)).2) = false by simp]
  rw [if_neg (by decide), stopgatelaw01_FixedSums.j0, if_neg (by decide), subF _ b (tells_fits _) hb, addF _ b (tells_fits _) hb]
  simp only [Option.bind_some]
  have e1 : a + b - b = a := by omega
  have e2 : a - b + b = a := by omega
  by_cases h1 : fits (a + b) <;> by_cases h2 : fits (a - b)
  · rw [tells_yes h1, tells_yes h2]; simp only [e1, e2, tells_yes ha]; simp
  · rw [tells_yes h1, tells_no h2]; simp only [e1, tells_yes ha]; simp
  · rw [tells_no h1, tells_yes h2]; simp only [e2, tells_yes ha]; simp
  · rw [tells_no h1, tells_no h2]; simp

end Go.Proofs.Ytnodcekkbbmfnaa.Pure
