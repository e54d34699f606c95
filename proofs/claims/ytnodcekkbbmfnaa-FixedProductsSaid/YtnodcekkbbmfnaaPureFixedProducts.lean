/- The product of two numbers of 64 bits as package fixed tells it is the one that the reference tells by pieces of 32 bits; so is what so many are worth. No condition. -/
import Derived.Test.YtnodcekkbbmfnaaPFixedProductsx1
namespace Go.Proofs.Ytnodcekkbbmfnaa.Pure
open Go.RowKit Go.Proofs.Ytnodcekkbbmfnaa.PFixedProducts Go.Proofs.YtnodcekkbbmfnaaW.PrintWords Go.Proofs.YtnodcekkbbmfnaaW.PrintLast

def fits (n : Int) : Prop := -9223372036854775808 ≤ n ∧ n ≤ 9223372036854775807
instance (n : Int) : Decidable (fits n) := by unfold fits; infer_instance

theorem wrap_in {n : Int} (h : fits n) : wrap64 n = n := by
  unfold fits at h
  unfold wrap64
  omega
theorem wrap_fits (n : Int) : fits (wrap64 n) := by
  unfold wrap64 fits
  omega
theorem wrap_off (n : Int) : ∃ m : Int, wrap64 n = n + m * 18446744073709551616 := by
  unfold wrap64
  exact ⟨-((n + 9223372036854775808) / 18446744073709551616), by omega⟩

/-- What a product of numbers of 64 bits is told to be. -/
def mulT (a b : Int) : Int × Bool := if fits (a * b) then (a * b, true) else (0, false)

theorem mul_back (a b : Int) (hb : b ≠ 0) : Int.tdiv (a * b) b = a := Int.mul_tdiv_cancel a hb

theorem tdiv_bound (w b : Int) (hw : fits w) (hb : b ≠ 0) (hs : ¬ (w = -9223372036854775808 ∧ b = -1)) : fits (Int.tdiv w b) := by
  have h1 : (Int.tdiv w b).natAbs = w.natAbs / b.natAbs := Int.natAbs_tdiv w b
  have h2 : w.natAbs / b.natAbs ≤ w.natAbs := Nat.div_le_self _ _
  unfold fits at *
  by_cases hw' : w = -9223372036854775808
  · by_cases hb1 : b = 1
    · subst hb1; rw [Int.tdiv_one]; omega
    · have hb2 : 2 ≤ b.natAbs := by omega
      have h3 : w.natAbs / b.natAbs ≤ w.natAbs / 2 := Nat.div_le_div_left hb2 (by omega)
      omega
  · omega

theorem no_fit (a b : Int) (hb : fits b) (hb0 : b ≠ 0) (hn : ¬ fits (a * b)) (h : wrap64 (Int.tdiv (wrap64 (a * b)) b) = a) : a = -9223372036854775808 ∧ b = -1 ∧ wrap64 (a * b) = a := by
  have hwf := wrap_fits (a * b)
  by_cases hs : wrap64 (a * b) = -9223372036854775808 ∧ b = -1
  · obtain ⟨h1, h2⟩ := hs
    have h3 : Int.tdiv (wrap64 (a * b)) b = 9223372036854775808 := by rw [h1, h2]; decide
    rw [h3] at h
    have h4 : wrap64 9223372036854775808 = -9223372036854775808 := by unfold wrap64; omega
    omega
  · rw [wrap_in (tdiv_bound _ b hwf hb0 hs)] at h
    obtain ⟨m, hm⟩ := wrap_off (a * b)
    have h5 := Int.mul_tdiv_add_tmod (wrap64 (a * b)) b
    rw [h] at h5
    have h6 : (Int.tmod (wrap64 (a * b)) b).natAbs < b.natAbs := by
      rw [Int.natAbs_tmod]
      exact Nat.mod_lt _ (by omega)
    rw [Int.mul_comm b a] at h5
    have hm0 : m ≠ 0 := by
      intro e
      subst e
      apply hn
      rw [show a * b = wrap64 (a * b) by rw [hm]; omega]
      exact hwf
    generalize a * b = p at *
    generalize wrap64 p = w at *
    generalize Int.tmod w b = r at *
    unfold fits at *
    exfalso
    rcases Int.lt_or_gt_of_ne hm0 with hlt | hgt <;> omega

theorem mulJ (k : Nat) (a b : Int) (ha : fits a) (hb : fits b) (ha0 : a ≠ 0) (hb0 : b ≠ 0) : fixed_Mul.j0 (k + 1) a b false = some (mulT a b) := by
  rw [fixed_Mul.j0, if_neg (by decide), if_neg hb0]
  unfold mulT
  by_cases hf : fits (a * b)
  · have hw := wrap_in hf
    rw [if_pos hf, hw, mul_back a b hb0, wrap_in ha, if_pos rfl]
    by_cases h1 : a = -1
    · subst h1
      rw [if_pos rfl]
      have : ¬ ((-1 : Int) * b = b) := by omega
      rw [if_neg this]
      by_cases h2 : b = -1
      · subst h2; rw [if_pos rfl]; rfl
      · rw [if_neg h2]
    · rw [if_neg h1]
      by_cases h2 : b = -1
      · subst h2
        rw [if_pos rfl]
        have : ¬ (a * -1 = a) := by omega
        rw [if_neg this]
      · rw [if_neg h2]
  · rw [if_neg hf]
    by_cases h : wrap64 (Int.tdiv (wrap64 (a * b)) b) = a
    · obtain ⟨h1, h2, h3⟩ := no_fit a b hb hb0 hf h
      rw [if_pos h, if_neg (by omega), if_pos h2, if_pos h3]
    · rw [if_neg h]

theorem mulF (k : Nat) (a b : Int) (ha : fits a) (hb : fits b) : fixed_Mul.f (k + 1) a b = some (mulT a b) := by
  unfold fixed_Mul.f
  by_cases ha0 : a = 0
  · rw [if_pos ha0]; subst ha0
    simp [fixed_Mul.j0, mulT, fits]
  · rw [if_neg ha0]
    by_cases hb0 : b = 0
    · subst hb0
      simp [fixed_Mul.j0, mulT, fits]
    · rw [show (b == 0) = false by simp [hb0]]
      exact mulJ k a b ha hb ha0 hb0

/-! ### the reference -/
theorem u64_in {n : Int} (h0 : 0 ≤ n) (h : n < 18446744073709551616) : IntKind.u64.wrap n = n := by
  have e : IntKind.u64.wrap n = n % 18446744073709551616 := by rfl
  rw [e]; omega

theorem sizeF (a : Int) (ha : fits a) : stopgateref01_size.f a = some (a.natAbs : Int) := by
  unfold stopgateref01_size.f
  unfold fits at ha
  by_cases h : a < 0
  · rw [if_pos h]
    have e1 : wrap64 (a + 1) = a + 1 := by unfold wrap64; omega
    have e2 : wrap64 (-(a + 1)) = -(a + 1) := by unfold wrap64; omega
    rw [e1, e2, u64_in (n := -(a + 1)) (by omega) (by omega), u64_in (by omega) (by omega)]
    congr 1; omega
  · rw [if_neg h, u64_in (by omega) (by omega)]
    congr 1; omega

theorem wideF (x y : Nat) (hx : x < 18446744073709551616) (hy : y < 18446744073709551616) :
    stopgateref01_Wide.f (x : Int) (y : Int) = some (((x * y / 18446744073709551616 : Nat) : Int), ((x * y % 18446744073709551616 : Nat) : Int)) := by
  obtain ⟨xl, xh, hxl, hxh, rfl⟩ : ∃ xl xh : Nat, xl < 4294967296 ∧ xh < 4294967296 ∧ x = xh * 4294967296 + xl := ⟨x % 4294967296, x / 4294967296, by omega, by omega, by omega⟩
  obtain ⟨yl, yh, hyl, hyh, rfl⟩ : ∃ yl yh : Nat, yl < 4294967296 ∧ yh < 4294967296 ∧ y = yh * 4294967296 + yl := ⟨y % 4294967296, y / 4294967296, by omega, by omega, by omega⟩
  have q1 : Int.tdiv (((xh * 4294967296 + xl : Nat)) : Int) 4294967296 = (xh : Int) := by
    rw [Int.tdiv_eq_ediv_of_nonneg (by omega)]; omega
  have q2 : Int.tdiv (((yh * 4294967296 + yl : Nat)) : Int) 4294967296 = (yh : Int) := by
    rw [Int.tdiv_eq_ediv_of_nonneg (by omega)]; omega
  have r1 : Int.tmod (((xh * 4294967296 + xl : Nat)) : Int) 4294967296 = (xl : Int) := by
    rw [Int.tmod_eq_emod_of_nonneg (by omega)]; omega
  have r2 : Int.tmod (((yh * 4294967296 + yl : Nat)) : Int) 4294967296 = (yl : Int) := by
    rw [Int.tmod_eq_emod_of_nonneg (by omega)]; omega
  unfold stopgateref01_Wide.f
  simp only [q1, q2, r1, r2]
  rw [u64_in (n := (xh : Int)) (by omega) (by omega), u64_in (n := (yh : Int)) (by omega) (by omega)]
  have bnd : ∀ a b : Nat, a < 4294967296 → b < 4294967296 → a * b ≤ 18446744065119617025 := by
    intro a b h1 h2
    have : a * b ≤ 4294967295 * 4294967295 := Nat.mul_le_mul (by omega) (by omega)
    omega
  have b1 := bnd xl yl hxl hyl
  have b2 := bnd xh yl hxh hyl
  have b3 := bnd xl yh hxl hyh
  have b4 := bnd xh yh hxh hyh
  have hxy : (xh * 4294967296 + xl) * (yh * 4294967296 + yl) = (xh * yh) * 18446744073709551616 + (xh * yl) * 4294967296 + (xl * yh) * 4294967296 + xl * yl := by
    rw [Nat.add_mul, Nat.mul_add, Nat.mul_add]
    have e1 : xh * 4294967296 * (yh * 4294967296) = (xh * yh) * 18446744073709551616 := by
      rw [Nat.mul_mul_mul_comm]
    have e2 : xh * 4294967296 * yl = (xh * yl) * 4294967296 := by rw [Nat.mul_right_comm]
    have e3 : xl * (yh * 4294967296) = (xl * yh) * 4294967296 := by rw [Nat.mul_assoc]
    rw [e1, e2, e3]; omega
  rw [hxy]
  rw [show ((xl : Int) * (yl : Int)) = ((xl * yl : Nat) : Int) by simp, show ((xh : Int) * (yl : Int)) = ((xh * yl : Nat) : Int) by simp, show ((xl : Int) * (yh : Int)) = ((xl * yh : Nat) : Int) by simp, show ((xh : Int) * (yh : Int)) = ((xh * yh : Nat) : Int) by simp]
  generalize xl * yl = A at *
  generalize xh * yl = B at *
  generalize xl * yh = C at *
  generalize xh * yh = D at *
  have td : ∀ n : Nat, Int.tdiv (n : Int) 4294967296 = ((n / 4294967296 : Nat) : Int) := fun n => by
    rw [Int.tdiv_eq_ediv_of_nonneg (by omega)]; omega
  have tm : ∀ n : Nat, Int.tmod (n : Int) 4294967296 = ((n % 4294967296 : Nat) : Int) := fun n => by
    rw [Int.tmod_eq_emod_of_nonneg (by omega)]; omega
  have un : ∀ n : Nat, n < 18446744073709551616 → IntKind.u64.wrap (n : Int) = (n : Int) := fun n h => u64_in (by omega) (by omega)
  have pl : ∀ m n : Nat, (m : Int) + (n : Int) = ((m + n : Nat) : Int) := fun m n => by simp
  have ml : ∀ m : Nat, (m : Int) * 4294967296 = ((m * 4294967296 : Nat) : Int) := fun m => by simp
  rw [un A (by omega), td A, tm A, un (A / 4294967296) (by omega), un B (by omega), pl]
  obtain ⟨A1, hA1⟩ : ∃ x, x = A / 4294967296 := ⟨_, rfl⟩
  obtain ⟨A0, hA0⟩ : ∃ x, x = A % 4294967296 := ⟨_, rfl⟩
  rw [← hA1, ← hA0]
  obtain ⟨M, hM⟩ : ∃ x, x = B + A1 := ⟨_, rfl⟩
  rw [← hM, un M (by omega), td M, tm M]
  obtain ⟨M1, hM1⟩ : ∃ x, x = M / 4294967296 := ⟨_, rfl⟩
  obtain ⟨M0, hM0⟩ : ∃ x, x = M % 4294967296 := ⟨_, rfl⟩
  rw [← hM1, ← hM0, un C (by omega), pl C M0]
  obtain ⟨N, hN⟩ : ∃ x, x = C + M0 := ⟨_, rfl⟩
  rw [← hN, un N (by omega), td N, tm N]
  obtain ⟨N1, hN1⟩ : ∃ x, x = N / 4294967296 := ⟨_, rfl⟩
  obtain ⟨N0, hN0⟩ : ∃ x, x = N % 4294967296 := ⟨_, rfl⟩
  rw [← hN1, ← hN0, un D (by omega), un M1 (by omega), un N1 (by omega), pl D M1]
  obtain ⟨E, hE⟩ : ∃ x, x = D + M1 := ⟨_, rfl⟩
  have hE' : E ≤ 18446744073709551614 := by omega
  rw [← hE, un E (by omega), pl E N1, ml N0]
  obtain ⟨F, hF⟩ : ∃ x, x = E + N1 := ⟨_, rfl⟩
  have key : D * 18446744073709551616 + B * 4294967296 + C * 4294967296 + A = F * 18446744073709551616 + N0 * 4294967296 + A0 := by omega
  have hFb : F < 18446744073709551616 := by omega
  obtain ⟨G, hG⟩ : ∃ x, x = N0 * 4294967296 := ⟨_, rfl⟩
  rw [← hF, un F hFb, ← hG, un G (by omega), pl G A0]
  obtain ⟨K, hK⟩ : ∃ x, x = G + A0 := ⟨_, rfl⟩
  rw [← hK, un K (by omega), key]
  have k1 : (F * 18446744073709551616 + N0 * 4294967296 + A0) / 18446744073709551616 = F := by omega
  have k2 : (F * 18446744073709551616 + N0 * 4294967296 + A0) % 18446744073709551616 = K := by omega
  rw [k1, k2]

theorem refMulF (a b : Int) (ha : fits a) (hb : fits b) : stopgateref01_Mul.f a b = some (mulT a b) := by
  unfold stopgateref01_Mul.f
  rw [sizeF a ha, sizeF b hb]
  simp only [Option.bind_some]
  have hu : a.natAbs ≤ 9223372036854775808 := by unfold fits at ha; omega
  have hv : b.natAbs ≤ 9223372036854775808 := by unfold fits at hb; omega
  rw [wideF a.natAbs b.natAbs (by omega) (by omega)]
  simp only [Option.bind_some]
  have hn : (a * b).natAbs = a.natAbs * b.natAbs := Int.natAbs_mul a b
  rw [← hn]
  have sgn : (decide (a < 0) == decide (b < 0)) = true → 0 ≤ a * b := by
    intro h
    by_cases h1 : a < 0
    · by_cases h2 : b < 0
      · exact Int.mul_nonneg_of_nonpos_of_nonpos (by omega) (by omega)
      · simp [h1, h2] at h
    · by_cases h2 : b < 0
      · simp [h1, h2] at h
      · exact Int.mul_nonneg (by omega) (by omega)
  have sgn' : (decide (a < 0) == decide (b < 0)) ≠ true → a * b ≤ 0 := by
    intro h
    by_cases h1 : a < 0
    · by_cases h2 : b < 0
      · simp [h1, h2] at h
      · exact Int.mul_nonpos_of_nonpos_of_nonneg (by omega) (by omega)
    · by_cases h2 : b < 0
      · exact Int.mul_nonpos_of_nonneg_of_nonpos (by omega) (by omega)
      · simp [h1, h2] at h
  unfold mulT
  generalize a * b = p at *
  generalize (decide (a < 0) == decide (b < 0)) = s at *
  by_cases hh : ((p.natAbs / 18446744073709551616 : Nat) : Int) = 0
  · rw [if_pos hh]
    have hlt : p.natAbs < 18446744073709551616 := by omega
    rw [show p.natAbs % 18446744073709551616 = p.natAbs by omega]
    by_cases hs : s = true
    · have hp := sgn hs
      rw [if_pos hs]
      by_cases hl : (p.natAbs : Int) > 9223372036854775807
      · rw [if_pos hl, if_neg (by unfold fits; omega)]
      · rw [if_neg hl, if_pos (by unfold fits; omega)]
        rw [show (p.natAbs : Int) = p by omega, wrap_in (n := p) (by unfold fits; omega)]
    · have hp := sgn' hs
      rw [if_neg hs]
      by_cases hl : (p.natAbs : Int) > 9223372036854775808
      · rw [if_pos hl, if_neg (by unfold fits; omega)]
      · rw [if_neg hl, if_pos (c := fits p) (by unfold fits; omega)]
        by_cases h0 : (p.natAbs : Int) = 0
        · rw [if_pos h0]
          have : p = 0 := by omega
          rw [this]
        · rw [if_neg h0, u64_in (by omega) (by omega), wrap_in (n := (p.natAbs : Int) - 1) (by unfold fits; omega), wrap_in (n := -((p.natAbs : Int) - 1)) (by unfold fits; omega), wrap_in (by unfold fits; omega)]
          congr 2; omega
  · rw [if_neg hh, if_neg (by unfold fits; omega)]

theorem tellF (k : Nat) : stopgatelaw01_told.f (k + 1) = some true := by
  unfold stopgatelaw01_told.f fixed_Notional.f
  rw [mulF k _ _ (by decide) (by decide), mulF k _ _ (by decide) (by decide), mulF k 7 6 (by decide) (by decide)]
  decide

theorem wf_fits {n : Int} (h : (Lit.int .i64 n).wf = true) : fits n := by
  have h' : (decide (IntKind.i64.min ≤ n) && decide (n ≤ IntKind.i64.max)) = true := h
  have e1 : IntKind.i64.min = -9223372036854775808 := by decide
  have e2 : IntKind.i64.max = 9223372036854775807 := by decide
  rw [e1, e2] at h'
  simp only [Bool.and_eq_true, decide_eq_true_eq] at h'
  exact h'

theorem mulT_comm (a b : Int) : mulT a b = mulT b a := by unfold mulT; rw [Int.mul_comm]

theorem FixedProducts : stopgatelaw01_FixedProducts.Pure := by
  intro a b ha hb
  have ha := wf_fits ha
  have hb := wf_fits hb
  refine ⟨1, ?_⟩
  unfold stopgatelaw01_FixedProducts.f fixed_Notional.f stopgateref01_Notional.f
  rw [mulF 0 a b ha hb, mulF 0 b a hb ha, refMulF a b ha hb, tellF 0, mulT_comm b a]
  simp only [Option.bind_some]
  by_cases h1 : a < 0 <;> by_cases h2 : b < 0 <;> simp [h1, h2]

end Go.Proofs.Ytnodcekkbbmfnaa.Pure
