/- The law BandSames, over the printed functions alone. No condition. -/
import Derived.Test.YtnodcekkbbmfnaaQBandSamesx2
namespace Go.Proofs.Ytnodcekkbbmfnaa.Pure
open Go.RowKit Go.Proofs.Ytnodcekkbbmfnaa.QBandSames Go.Proofs.YtnodcekkbbmfnaaW.PrintWords Go.Proofs.YtnodcekkbbmfnaaW.PrintLast Go.Proofs.YtnodcekkbbmfnaaW.PrintMore
set_option linter.unusedVariables false
set_option linter.unusedSimpArgs false
theorem pred {k d : Nat} (h : d < k) : ∃ m, k = m + 1 := ⟨k - 1, by omega⟩
abbrev ord (x y : Nat) : Option Ordering := FloatKind.f64.format.order x y
/-- Is it a fraction? -/
def frac (a : Nat) : Bool := ord a 0 == some .gt || ord a 0 == some .eq
theorem dord_self (d : Ieee.Datum) (h : d.isNaN = false) : d.order d = some .eq := by
  cases d with
  | number s m i => simp [Ieee.Datum.order, compare, compareOfLessAndEq]
  | infinity s => simp [Ieee.Datum.order, compare, compareOfLessAndEq]
  | nan s t => cases h
theorem dord_nan (d e : Ieee.Datum) (h : d.isNaN = true) : d.order e = none := by
  cases d with
  | number s m i => cases h
  | infinity s => cases h
  | nan s t => rfl
theorem ord_self (a : Nat) : (ord a a != some .eq) = (FloatKind.f64.decode a).isNaN := by
  unfold ord Ieee.Format.order
  show ((FloatKind.f64.decode a).order (FloatKind.f64.decode a) != some .eq) = _
  cases h : (FloatKind.f64.decode a).isNaN with
  | true => rw [dord_nan _ _ h]; rfl
  | false => rw [dord_self _ h]; rfl
theorem frac_nan (a : Nat) (h : (FloatKind.f64.decode a).isNaN = true) : frac a = false := by
  unfold frac ord Ieee.Format.order
  have : (FloatKind.f64.format.read a).order (FloatKind.f64.format.read 0) = none := dord_nan _ _ h
  rw [this]; rfl
theorem right_f (a : Nat) : band_Right.f a = some (frac a) := by
  unfold band_Right.f math_IsNaN.f
  rw [Option.bind_some]
  rw [show (FloatKind.f64.format.order a a != some .eq) = _ from ord_self a]
  cases h : (FloatKind.f64.decode a).isNaN with
  | true => rw [if_pos rfl, frac_nan a h]
  | false => rw [if_neg (by simp)]; rfl
theorem rright_f (a : Nat) : stopgateref02_Right.f a = some (frac a) := rfl
theorem told_f : stopgatelaw02_told.f = some true := by decide +kernel
theorem cmp_swap (a b : Int) : (compare a b == Ordering.eq) = (compare b a == Ordering.eq) := by
  rw [Bool.eq_iff_iff]
  simp only [beq_iff_eq, Int.compare_eq_eq]
  exact ⟨Eq.symm, Eq.symm⟩
theorem cmp_swapN (a b : Nat) : (compare a b == Ordering.eq) = (compare b a == Ordering.eq) := by
  rw [Bool.eq_iff_iff]
  simp only [beq_iff_eq, Nat.compare_eq_eq]
  exact ⟨Eq.symm, Eq.symm⟩
theorem ord_swap (a b : Nat) : (ord a b == some .eq) = (ord b a == some .eq) := by
  unfold ord Ieee.Format.order
  generalize FloatKind.f64.format.read a = d
  generalize FloatKind.f64.format.read b = e
  cases d with
  | number s m i =>
    cases e with
    | number t n j =>
      simp only [Ieee.Datum.order]
      rw [Int.min_comm j i]
      exact cmp_swap _ _
    | infinity t => cases t <;> rfl
    | nan t n => rfl
  | infinity s =>
    cases e with
    | number t n j => cases s <;> rfl
    | infinity t => exact cmp_swapN _ _
    | nan t n => rfl
  | nan s m => cases e <;> rfl
def sam (a b : Nat) : Bool := if frac a && frac b then ord a b == some .eq else frac a == frac b
theorem same_f (a b : Nat) {k : Nat} (hk : 0 < k) : band_Same.f k a b = some (sam a b) := by
  obtain ⟨k, rfl⟩ := pred hk
  unfold band_Same.f sam
  rw [right_f, right_f, Option.bind_some]
  cases ha : frac a with
  | true =>
    rw [if_pos rfl, Option.bind_some]
    cases hb : frac b with
    | true => simp [band_Same.j0]
    | false => simp [band_Same.j0, right_f, ha, hb]
  | false => simp [band_Same.j0, right_f, ha]
theorem rsame_f (a b : Nat) {k : Nat} (hk : 0 < k) : stopgateref02_Same.f k a b = some (sam a b) := by
  obtain ⟨k, rfl⟩ := pred hk
  unfold stopgateref02_Same.f sam
  rw [rright_f, rright_f, Option.bind_some]
  cases ha : frac a with
  | true =>
    rw [if_pos rfl, Option.bind_some]
    cases hb : frac b with
    | true => simp [stopgateref02_Same.j0]
    | false => simp [stopgateref02_Same.j0, rright_f, ha, hb]
  | false => simp [stopgateref02_Same.j0, rright_f, ha]
theorem sam_self (a : Nat) : sam a a = true := by
  unfold sam
  cases h : frac a with
  | false => rfl
  | true =>
    have hn : (FloatKind.f64.decode a).isNaN = false := by
      cases hn : (FloatKind.f64.decode a).isNaN with
      | false => rfl
      | true => rw [frac_nan a hn] at h; cases h
    have := ord_self a
    rw [hn] at this
    simp only [Bool.and_self, if_true]
    simpa using this
theorem sam_swap (a b : Nat) : sam a b = sam b a := by
  unfold sam
  rw [ord_swap, Bool.and_comm]
  split
  · rfl
  · cases frac a <;> cases frac b <;> rfl
theorem BandSames : stopgatelaw02_BandSames.Pure := by
  intro a b _ _
  refine ⟨5, ?_⟩
  unfold stopgatelaw02_BandSames.f
  rw [told_f, Option.bind_some, if_pos rfl, same_f _ _ (by omega), Option.bind_some, rsame_f _ _ (by omega), Option.bind_some, if_pos (by simp), same_f _ _ (by omega), Option.bind_some, sam_self, if_pos rfl, same_f _ _ (by omega), Option.bind_some, sam_swap]
  simp
end Go.Proofs.Ytnodcekkbbmfnaa.Pure
