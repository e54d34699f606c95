/- The law BandCollars, over the printed functions alone. No condition. -/
import Derived.Test.YtnodcekkbbmfnaaQBandCollarsx2
namespace Go.Proofs.Ytnodcekkbbmfnaa.Pure
open Go.RowKit Go.Proofs.Ytnodcekkbbmfnaa.QBandCollars Go.Proofs.YtnodcekkbbmfnaaW.PrintWords Go.Proofs.YtnodcekkbbmfnaaW.PrintLast Go.Proofs.YtnodcekkbbmfnaaW.PrintMore
set_option linter.unusedVariables false
set_option linter.unusedSimpArgs false
theorem pred {k d : Nat} (h : d < k) : ∃ m, k = m + 1 := ⟨k - 1, by omega⟩
abbrev ord (x y : Nat) : Option Ordering := FloatKind.f64.format.order x y
/-- Is it a fraction? -/
def frac (a : Nat) : Bool := ord a 0 == some .gt || ord a 0 == some .eq
theorem dord_self (d : Ieee.Datum) (h : d.isNaN = false) : d.order d = some .eq := by
  cases d with
  | number s m i => simp [Ieee.Datum.order, compare, compareOfLessAndEq]
  | infinity s => simp [Ieee.Datum.order, compare, compareOfLessAndEq]
  | nan s t => cases h
theorem dord_nan (d e : Ieee.Datum) (h : d.isNaN = true) : d.order e = none := by
  cases d with
  | number s m i => cases h
  | infinity s => cases h
  | nan s t => rfl
theorem ord_self (a : Nat) : (ord a a != some .eq) = (FloatKind.f64.decode a).isNaN := by
  unfold ord Ieee.Format.order
  show ((FloatKind.f64.decode a).order (FloatKind.f64.decode a) != some .eq) = _
  cases h : (FloatKind.f64.decode a).isNaN with
  | true => rw [dord_nan _ _ h]; rfl
  | false => rw [dord_self _ h]; rfl
theorem frac_nan (a : Nat) (h : (FloatKind.f64.decode a).isNaN = true) : frac a = false := by
  unfold frac ord Ieee.Format.order
  have : (FloatKind.f64.format.read a).order (FloatKind.f64.format.read 0) = none := dord_nan _ _ h
  rw [this]; rfl
theorem right_f (a : Nat) : band_Right.f a = some (frac a) := by
  unfold band_Right.f math_IsNaN.f
  rw [Option.bind_some]
  rw [show (FloatKind.f64.format.order a a != some .eq) = _ from ord_self a]
  cases h : (FloatKind.f64.decode a).isNaN with
  | true => rw [if_pos rfl, frac_nan a h]
  | false => rw [if_neg (by simp)]; rfl
theorem rright_f (a : Nat) : stopgateref02_Right.f a = some (frac a) := rfl
theorem told_f : stopgatelaw02_told.f = some true := by decide +kernel
open Ieee (Datum)
theorem rd_word (s : Bool) (r : Nat) (hr : r ≤ 9218868437227405312) : Ieee.double.read (Ieee.double.word s r) =
    if r < 4503599627370496 then Datum.number s r (-1074) else if r < 9218868437227405312 then Datum.number s (4503599627370496 + r % 4503599627370496) (-1074 + ((r / 4503599627370496 - 1 : Nat) : Int)) else Datum.infinity s := by
  have hw : Ieee.double.signWeight = 9223372036854775808 := by decide
  have hb : Ieee.double.binade = 4503599627370496 := by decide
  have hi : Ieee.double.infRung = 9218868437227405312 := by decide
  have hl : Ieee.double.leastPlace = -1074 := by decide
  have e1 : (Ieee.double.word s r / Ieee.double.signWeight % 2 == 1) = s := by
    unfold Ieee.Format.word; rw [hw]
    cases s
    · rw [if_neg (by simp), Nat.div_eq_of_lt (by omega)]; rfl
    · rw [if_pos rfl]
      have : (9223372036854775808 + r) / 9223372036854775808 = 1 := by omega
      rw [this]; rfl
  have e2 : Ieee.double.word s r % Ieee.double.signWeight = r := by
    unfold Ieee.Format.word; rw [hw]
    cases s
    · rw [if_neg (by simp)]; omega
    · rw [if_pos rfl]; omega
  unfold Ieee.Format.read
  simp only
  rw [e1, e2, hb, hi, hl]
  split
  · rfl
  · split
    · rfl
    · rw [if_pos (by omega)]
theorem cut_floor (way : Ieee.Toward) (n drop : Nat) (h : way = .zero ∨ way = .down) : way.cut false n drop = n / 2 ^ drop := by
  have e : (1 : Nat) <<< min drop (n.log2 + 2) = 2 ^ min drop (n.log2 + 2) := by rw [Nat.shiftLeft_eq, Nat.one_mul]
  unfold Ieee.Toward.cut
  simp only [e]
  have hm : (match way with
    | .even => decide (2 ^ min drop (n.log2 + 2) < 2 * (n % 2 ^ min drop (n.log2 + 2))) || 2 ^ min drop (n.log2 + 2) == 2 * (n % 2 ^ min drop (n.log2 + 2)) && n / 2 ^ min drop (n.log2 + 2) % 2 == 1
    | .down => false && n % 2 ^ min drop (n.log2 + 2) != 0
    | .up => !false && n % 2 ^ min drop (n.log2 + 2) != 0
    | .zero => false) = false := by rcases h with rfl | rfl <;> rfl
  have hq : n / 2 ^ min drop (n.log2 + 2) = n / 2 ^ drop := by
    rcases Nat.le_total drop (n.log2 + 2) with hd | hd
    · rw [Nat.min_eq_left hd]
    · rw [Nat.min_eq_right hd]
      have h1 : n < 2 ^ (n.log2 + 1) := Nat.lt_log2_self
      have h2 : 2 ^ (n.log2 + 1) ≤ 2 ^ (n.log2 + 2) := Nat.pow_le_pow_right (by omega) (by omega)
      have h3 : 2 ^ (n.log2 + 2) ≤ 2 ^ drop := Nat.pow_le_pow_right (by omega) hd
      rw [Nat.div_eq_of_lt (by omega), Nat.div_eq_of_lt (by omega)]
  rcases h with rfl | rfl
  · show n / 2 ^ min drop (n.log2 + 2) + 0 = _
    rw [hq]; rfl
  · show n / 2 ^ min drop (n.log2 + 2) + (false && n % 2 ^ min drop (n.log2 + 2) != 0).toNat = _
    rw [hq, Bool.false_and]; rfl
/-- A number's whole part. -/
def tr (m : Nat) (i : Int) : Nat := (m * 2 ^ i.toNat) / 2 ^ (-i).toNat
theorem integral_floor (way : Ieee.Toward) (h : way = .zero ∨ way = .down) (m : Nat) (i : Int) : (Datum.number false m i).integral way = Datum.number false (tr m i) 0 := by
  unfold Datum.integral tr
  simp only
  rw [cut_floor way _ _ h, Nat.shiftLeft_eq]
theorem toInt_zero (m : Nat) (i : Int) : (Datum.number false m i).toInt .zero = some (tr m i : Int) := by
  unfold Datum.toInt
  rw [integral_floor .zero (.inl rfl)]
  simp [Ieee.signed]
theorem cut_none (n : Nat) : Ieee.Toward.even.cut false n 0 = n := by
  unfold Ieee.Toward.cut
  simp
  omega
theorem nearest_int (n : Nat) (h0 : 0 < n) (h1 : n < 9007199254740992) : FloatKind.f64.decode (FloatKind.f64.encode (.number false n 0)) = Datum.number false (n * 2 ^ (52 - n.log2)) ((n.log2 : Int) - 52) := by
  have hL : n.log2 ≤ 52 := by
    have := (Nat.log2_lt (by omega : n ≠ 0)).2 (show n < 2 ^ 53 by omega)
    omega
  have hlo : 2 ^ n.log2 ≤ n := Nat.log2_self_le (by omega)
  have hhi : n < 2 ^ (n.log2 + 1) := Nat.lt_log2_self
  have hk1 : 4503599627370496 ≤ n * 2 ^ (52 - n.log2) := by
    have : 2 ^ n.log2 * 2 ^ (52 - n.log2) ≤ n * 2 ^ (52 - n.log2) := Nat.mul_le_mul_right _ hlo
    rw [← Nat.pow_add, show n.log2 + (52 - n.log2) = 52 by omega] at this
    exact this
  have hk2 : n * 2 ^ (52 - n.log2) < 9007199254740992 := by
    have : n * 2 ^ (52 - n.log2) < 2 ^ (n.log2 + 1) * 2 ^ (52 - n.log2) := Nat.mul_lt_mul_of_pos_right hhi (Nat.pow_pos (by omega))
    rw [← Nat.pow_add, show n.log2 + 1 + (52 - n.log2) = 53 by omega] at this
    exact this
  have hw : FloatKind.f64.encode (.number false n 0) = Ieee.double.word false ((n.log2 + 1022) * 4503599627370496 + n * 2 ^ (52 - n.log2)) := by
    show Ieee.double.nearest false n 0 = _
    unfold Ieee.Format.nearest
    rw [if_neg (by omega)]
    have hl : Ieee.double.leastPlace = -1074 := by decide
    have hi : Ieee.double.infRung = 9218868437227405312 := by decide
    have hb : Ieee.double.binade = 4503599627370496 := by decide
    have hf : (Ieee.double.fractionBits : Int) = 52 := by decide
    have hlast : max ((0 : Int) + (n.log2 : Int) - (Ieee.double.fractionBits : Int)) Ieee.double.leastPlace = (n.log2 : Int) - 52 := by rw [hf, hl]; omega
    simp only [hlast]
    rw [show ((0 : Int) - ((n.log2 : Int) - 52)).toNat = 52 - n.log2 by omega, show ((n.log2 : Int) - 52 - 0).toNat = 0 by omega, cut_none, Nat.shiftLeft_eq, hl, hi, hb, show ((n.log2 : Int) - 52 - -1074).toNat = n.log2 + 1022 by omega, Nat.min_eq_left (by omega)]
  rw [hw]
  show Ieee.double.read _ = _
  rw [rd_word _ _ (by omega), if_neg (by omega), if_pos (by omega)]
  have e1 : ((n.log2 + 1022) * 4503599627370496 + n * 2 ^ (52 - n.log2)) % 4503599627370496 = n * 2 ^ (52 - n.log2) - 4503599627370496 := by omega
  have e2 : ((n.log2 + 1022) * 4503599627370496 + n * 2 ^ (52 - n.log2)) / 4503599627370496 = n.log2 + 1023 := by omega
  rw [e1, e2, show 4503599627370496 + (n * 2 ^ (52 - n.log2) - 4503599627370496) = n * 2 ^ (52 - n.log2) by omega, show (-1074 : Int) + ((n.log2 + 1023 - 1 : Nat) : Int) = (n.log2 : Int) - 52 by omega]
theorem tr_int (n : Nat) (h1 : n < 9007199254740992) (h0 : 0 < n) : tr (n * 2 ^ (52 - n.log2)) ((n.log2 : Int) - 52) = n := by
  have hL : n.log2 ≤ 52 := by
    have := (Nat.log2_lt (by omega : n ≠ 0)).2 (show n < 2 ^ 53 by omega)
    omega
  unfold tr
  rw [show ((n.log2 : Int) - 52).toNat = 0 by omega, show (-((n.log2 : Int) - 52)).toNat = 52 - n.log2 by omega, Nat.pow_zero, Nat.mul_one, Nat.mul_div_cancel _ (Nat.pow_pos (by omega))]
/-- What 'nearest' writes reads as a number, or an infinity, of that sign. -/
theorem dec_enc (s : Bool) (m : Nat) (i : Int) : (∃ m' i', FloatKind.f64.decode (FloatKind.f64.encode (.number s m i)) = Datum.number s m' i') ∨ FloatKind.f64.decode (FloatKind.f64.encode (.number s m i)) = Datum.infinity s := by
  have hw : ∃ r, r ≤ 9218868437227405312 ∧ FloatKind.f64.encode (.number s m i) = Ieee.double.word s r := by
    show ∃ r, _ ∧ Ieee.double.nearest s m i = _
    unfold Ieee.Format.nearest
    by_cases h : m = 0
    · exact ⟨0, by omega, by rw [if_pos h]⟩
    · rw [if_neg h]
      exact ⟨_, Nat.le_trans (Nat.min_le_right _ _) (by decide), rfl⟩
  obtain ⟨r, hr, e⟩ := hw
  rw [e]
  show (∃ m' i', Ieee.double.read _ = _) ∨ Ieee.double.read _ = _
  rw [rd_word s r hr]
  by_cases h1 : r < 4503599627370496
  · rw [if_pos h1]; exact .inl ⟨_, _, rfl⟩
  · rw [if_neg h1]
    by_cases h2 : r < 9218868437227405312
    · rw [if_pos h2]; exact .inl ⟨_, _, rfl⟩
    · rw [if_neg h2]; exact .inr rfl
def big : Nat := 4787326403894837248
theorem dec_big : FloatKind.f64.format.read 4787326403894837248 = Datum.number false 4503599627370496 (-12) := by decide +kernel
theorem dec_max : FloatKind.f64.format.read 9218868437227405311 = Datum.number false 9007199254740991 971 := by decide +kernel
/-- A fraction, as a datum. -/
theorem frac_cases (f : Nat) (h : frac f = true) : (∃ m i, FloatKind.f64.format.read f = Datum.number false m i) ∨ (∃ i, FloatKind.f64.format.read f = Datum.number true 0 i) ∨ FloatKind.f64.format.read f = Datum.infinity false := by
  unfold frac ord Ieee.Format.order at h
  have hz : FloatKind.f64.format.read 0 = Datum.number false 0 (-1074) := by decide +kernel
  rw [hz] at h
  generalize hd : FloatKind.f64.format.read f = d at h ⊢
  cases d with
  | number s m i =>
    cases s with
    | false => exact .inl ⟨m, i, rfl⟩
    | true =>
      refine .inr (.inl ⟨i, ?_⟩)
      simp only [Datum.order, Ieee.signed, if_true, Nat.zero_shiftLeft] at h
      have hm : m <<< (i - min i (-1074)).toNat = 0 := by
        rcases Nat.eq_zero_or_pos (m <<< (i - min i (-1074)).toNat) with h0 | h0
        · exact h0
        · exfalso
          have : compare (-((m <<< (i - min i (-1074)).toNat : Nat) : Int)) ((0 : Nat) : Int) = .lt := Int.compare_eq_lt.2 (by omega)
          simp only [Bool.false_eq_true, if_false] at h
          rw [this] at h
          simp at h
      rw [Nat.shiftLeft_eq] at hm
      have : m = 0 := by
        rcases Nat.mul_eq_zero.1 hm with h | h
        · exact h
        · exact absurd h (Nat.pos_iff_ne_zero.1 (Nat.pow_pos (by omega)))
      rw [this]
  | infinity s =>
    cases s with
    | false => exact .inr (.inr rfl)
    | true => simp [Datum.order] at h
  | nan s t => simp [Datum.order] at h
theorem ord_num (x y : Nat) (m n : Nat) (i j : Int) (hx : FloatKind.f64.format.read x = Datum.number false m i) (hy : FloatKind.f64.format.read y = Datum.number false n j) :
    FloatKind.f64.format.order x y = some (compare ((m * 2 ^ (i - min i j).toNat : Nat) : Int) ((n * 2 ^ (j - min i j).toNat : Nat) : Int)) := by
  unfold Ieee.Format.order
  rw [hx, hy]
  simp [Datum.order, Ieee.signed, Nat.shiftLeft_eq]
theorem below_big (x m : Nat) (i : Int) (hx : FloatKind.f64.format.read x = Datum.number false m i) (h : (FloatKind.f64.format.order x 4787326403894837248 == some .gt || FloatKind.f64.format.order x 4787326403894837248 == some .eq) = false) :
    tr m i < 1099511627776 ∧ (FloatKind.f64.format.order x 9218868437227405311 == some .gt) = false := by
  rw [ord_num x _ m _ i _ hx dec_big] at h
  have hlt : m * 2 ^ (i - min i (-12)).toNat < 4503599627370496 * 2 ^ (-12 - min i (-12)).toNat := by
    rcases Nat.lt_or_ge (m * 2 ^ (i - min i (-12)).toNat) (4503599627370496 * 2 ^ (-12 - min i (-12)).toNat) with h' | h'
    · exact h'
    · exfalso
      rcases Nat.lt_or_eq_of_le h' with h2 | h2
      · rw [Int.compare_eq_gt.2 (by omega)] at h; simp at h
      · rw [Int.compare_eq_eq.2 (by omega)] at h; simp at h
  have htr : tr m i < 1099511627776 := by
    unfold tr
    rw [Nat.div_lt_iff_lt_mul (Nat.pow_pos (by omega))]
    by_cases hi : i < -12
    · rw [show min i (-12) = i by omega, show (i - i).toNat = 0 by omega, Nat.pow_zero, Nat.mul_one] at hlt
      rw [show i.toNat = 0 by omega, Nat.pow_zero, Nat.mul_one]
      have e : (2 : Nat) ^ (-i).toNat = 2 ^ 12 * 2 ^ (-12 - i).toNat := by rw [← Nat.pow_add]; congr 1; omega
      rw [e]; omega
    · rw [show min i (-12) = -12 by omega, show ((-12 : Int) - -12).toNat = 0 by omega, Nat.pow_zero, Nat.mul_one] at hlt
      by_cases h0 : 0 ≤ i
      · rw [show (-i).toNat = 0 by omega, Nat.pow_zero, Nat.mul_one]
        have e : (2 : Nat) ^ (i - -12).toNat = 2 ^ i.toNat * 2 ^ 12 := by rw [← Nat.pow_add]; congr 1; omega
        rw [e, ← Nat.mul_assoc] at hlt
        omega
      · rw [show i.toNat = 0 by omega, Nat.pow_zero, Nat.mul_one]
        have e : (2 : Nat) ^ (i - -12).toNat * 2 ^ (-i).toNat = 2 ^ 12 := by rw [← Nat.pow_add]; congr 1; omega
        have hp : 0 < 2 ^ (i - -12).toNat := Nat.pow_pos (by omega)
        have hq : m * 2 ^ (i - -12).toNat * 2 ^ (-i).toNat < 4503599627370496 * 2 ^ (-i).toNat := Nat.mul_lt_mul_of_pos_right hlt (Nat.pow_pos (by omega))
        rw [Nat.mul_assoc, e] at hq
        omega
  refine ⟨htr, ?_⟩
  rw [ord_num x _ m _ i _ hx dec_max]
  have hle : m * 2 ^ (i - min i 971).toNat ≤ 9007199254740991 * 2 ^ (971 - min i 971).toNat := by
    by_cases hi : i < -12
    · rw [show min i (-12) = i by omega, show (i - i).toNat = 0 by omega, Nat.pow_zero, Nat.mul_one] at hlt
      rw [show min i 971 = i by omega, show (i - i).toNat = 0 by omega, Nat.pow_zero, Nat.mul_one]
      obtain ⟨q, hq⟩ : ∃ q : Nat, q = 983 := ⟨_, rfl⟩
      have e : (2 : Nat) ^ (971 - i).toNat = 2 ^ q * 2 ^ (-12 - i).toNat := by rw [← Nat.pow_add]; congr 1; omega
      rw [e]
      have h3 : 4503599627370496 * 2 ^ (-12 - i).toNat ≤ 9007199254740991 * (2 ^ q * 2 ^ (-12 - i).toNat) := by
        rw [← Nat.mul_assoc]
        exact Nat.mul_le_mul_right _ (Nat.le_trans (by decide : 4503599627370496 ≤ 9007199254740991) (Nat.le_mul_of_pos_right _ (Nat.pow_pos (by omega))))
      omega
    · rw [show min i (-12) = -12 by omega, show ((-12 : Int) - -12).toNat = 0 by omega, Nat.pow_zero, Nat.mul_one] at hlt
      have hp : 0 < 2 ^ (i - -12).toNat := Nat.pow_pos (by omega)
      have hm : m < 4503599627370496 := Nat.lt_of_le_of_lt (Nat.le_mul_of_pos_right m hp) hlt
      by_cases h9 : i ≤ 971
      · rw [show min i 971 = i by omega, show (i - i).toNat = 0 by omega, Nat.pow_zero, Nat.mul_one]
        have hp2 : 0 < 2 ^ (971 - i).toNat := Nat.pow_pos (by omega)
        have := Nat.le_mul_of_pos_right 9007199254740991 hp2
        omega
      · rw [show min i 971 = 971 by omega, show ((971 : Int) - 971).toNat = 0 by omega, Nat.pow_zero, Nat.mul_one]
        have h2 : 2 ^ (i - 971).toNat ≤ 2 ^ (i - -12).toNat := Nat.pow_le_pow_right (by omega) (by omega)
        have h3 : m * 2 ^ (i - 971).toNat ≤ m * 2 ^ (i - -12).toNat := Nat.mul_le_mul_left _ h2
        omega
  rcases Nat.lt_or_eq_of_le hle with h2 | h2
  · rw [Int.compare_eq_lt.2 (by omega)]; rfl
  · rw [Int.compare_eq_eq.2 (by omega)]; rfl
theorem inf_gt (x y m : Nat) (i : Int) (s : Bool) (hx : FloatKind.f64.format.read x = Datum.infinity false) (hy : FloatKind.f64.format.read y = Datum.number s m i) : FloatKind.f64.format.order x y = some .gt := by
  unfold Ieee.Format.order; rw [hx, hy]; rfl
theorem floor_val (x m : Nat) (i : Int) (hx : FloatKind.f64.format.read x = Datum.number false m i) (h : tr m i < 1099511627776) : notNan x = true ∧ floatToIntVal .f64 (flr x) .i64 = some (tr m i : Int) ∧ floatToIntVal .f64 x .i64 = some (tr m i : Int) := by
  have hd : FloatKind.f64.decode x = Datum.number false m i := hx
  have hmin : IntKind.i64.min = -9223372036854775808 := by decide
  have hmax : IntKind.i64.max = 9223372036854775807 := by decide
  refine ⟨by unfold notNan; rw [hd]; rfl, ?_, ?_⟩
  · unfold flr
    rw [hd, integral_floor .down (.inr rfl)]
    unfold floatToIntVal
    rcases Nat.eq_zero_or_pos (tr m i) with h0 | h0
    · rw [h0]; decide +kernel
    · rw [nearest_int _ h0 (by omega), toInt_zero, tr_int _ (by omega) h0, hmin, hmax]
      simp only
      rw [if_pos (by omega)]
  · unfold floatToIntVal
    rw [hd, toInt_zero, hmin, hmax]
    simp only
    rw [if_pos (by omega)]
/-- How far a price may be: both tell the same, from 0 to the greatest price. -/
theorem far_f (p : Int) (h0 : 1 ≤ p) (h1 : p ≤ 1099511627776) (f : Nat) (hf : frac f = true) : ∃ D : Int, 0 ≤ D ∧ D ≤ 1099511627776 ∧ band_far.f p f = some D ∧ stopgateref02_far.f p f = some D := by
  have hp : FloatKind.f64.nearest p = FloatKind.f64.encode (.number false p.natAbs 0) := by
    unfold FloatKind.nearest; rw [show decide (p < 0) = false from decide_eq_false (by omega)]
  have hpr : FloatKind.f64.format.read (FloatKind.f64.nearest p) = Datum.number false (p.natAbs * 2 ^ (52 - p.natAbs.log2)) ((p.natAbs.log2 : Int) - 52) := by
    rw [hp]; exact nearest_int _ (by omega) (by omega)
  have hpos : p.natAbs * 2 ^ (52 - p.natAbs.log2) ≠ 0 := by
    have : 0 < p.natAbs * 2 ^ (52 - p.natAbs.log2) := Nat.mul_pos (by omega) (Nat.pow_pos (by omega))
    omega
  generalize p.natAbs * 2 ^ (52 - p.natAbs.log2) = m0 at hpr hpos
  generalize (p.natAbs.log2 : Int) - 52 = i0 at hpr
  -- the product's word, and what it reads as
  have hmul : ∃ d, FloatKind.f64.format.mul (FloatKind.f64.nearest p) f = some d ∧ (FloatKind.f64.format.read d = Datum.infinity false ∨ d = 9223372036854775808 ∨ ∃ m i, FloatKind.f64.format.read d = Datum.number false m i) := by
    unfold Ieee.Format.mul
    rw [hpr]
    rcases frac_cases f hf with ⟨m, i, e⟩ | ⟨i, e⟩ | e
    · rw [e]
      refine ⟨_, rfl, ?_⟩
      rcases dec_enc false (m0 * m) (i0 + i) with ⟨m', i', e'⟩ | e'
      · exact .inr (.inr ⟨m', i', e'⟩)
      · exact .inl e'
    · rw [e]
      refine ⟨_, rfl, .inr (.inl ?_)⟩
      show Ieee.double.nearest _ (m0 * 0) _ = _
      unfold Ieee.Format.nearest
      rw [Nat.mul_zero, if_pos rfl]; decide
    · rw [e]
      simp only [Datum.product]
      rw [if_neg hpos]
      refine ⟨_, rfl, .inl ?_⟩
      show Ieee.double.read (Ieee.double.word _ Ieee.double.infRung) = _
      decide +kernel
  obtain ⟨d, hd, hc⟩ := hmul
  have hbf : band_far.f p f = (if (FloatKind.f64.format.order d 9218868437227405311 == some .gt) = true then some 1099511627776 else if (FloatKind.f64.format.order d 4787326403894837248 == some .gt || FloatKind.f64.format.order d 4787326403894837248 == some .eq) = true then some 1099511627776 else (math_Floor.f d).bind fun t => if (floatToIntVal .f64 t .i64).isSome = true then some ((floatToIntVal .f64 t .i64).getD 0) else none) := by
    unfold band_far.f math_IsInf.f
    rw [hd]
    simp only [Option.isSome_some, if_true, Option.getD_some]
    rw [if_neg (by decide), if_neg (by decide), Option.bind_some]
  have hrf : stopgateref02_far.f p f = (if (FloatKind.f64.format.order d 4787326403894837248 == some .gt || FloatKind.f64.format.order d 4787326403894837248 == some .eq) = true then some 1099511627776 else if (floatToIntVal .f64 d .i64).isSome = true then some ((floatToIntVal .f64 d .i64).getD 0) else none) := by
    unfold stopgateref02_far.f
    rw [hd]
    simp only [Option.isSome_some, if_true, Option.getD_some]
  rw [hbf, hrf]
  rcases hc with hc | hc | ⟨m, i, hc⟩
  · refine ⟨1099511627776, by omega, by omega, ?_, ?_⟩
    · rw [inf_gt d _ _ _ _ hc dec_max]; simp
    · rw [inf_gt d _ _ _ _ hc dec_big]; simp
  · subst hc
    refine ⟨0, by omega, by omega, ?_, ?_⟩ <;> decide +kernel
  · cases hb : (FloatKind.f64.format.order d 4787326403894837248 == some .gt || FloatKind.f64.format.order d 4787326403894837248 == some .eq) with
    | true =>
      refine ⟨1099511627776, by omega, by omega, ?_, by rw [if_pos rfl]⟩
      split
      · rfl
      · rw [if_pos rfl]
    | false =>
      obtain ⟨h2, h3⟩ := below_big d m i hc hb
      obtain ⟨h4, h5, h6⟩ := floor_val d m i hc h2
      refine ⟨tr m i, by omega, by omega, ?_, ?_⟩
      · rw [h3, if_neg (by simp), if_neg (by simp)]
        unfold math_Floor.f
        rw [if_pos h4, Option.bind_some, h5]; rfl
      · rw [if_neg (by simp), h6]; rfl
theorem i64_range {n : Int} (h : (Lit.int .i64 n).wf = true) : -9223372036854775808 ≤ n ∧ n ≤ 9223372036854775807 := by
  have h' : (decide (IntKind.i64.min ≤ n) && decide (n ≤ IntKind.i64.max)) = true := h
  have e1 : IntKind.i64.min = -9223372036854775808 := by decide
  have e2 : IntKind.i64.max = 9223372036854775807 := by decide
  rw [e1, e2] at h'
  simp only [Bool.and_eq_true, decide_eq_true_eq] at h'
  exact h'
theorem w64_in {x : Int} (h0 : -9223372036854775808 ≤ x) (h1 : x ≤ 9223372036854775807) : wrap64 x = x := by unfold wrap64; omega
/-- The collar: none, or from a least price to a greatest. -/
theorem collar_f (p : Int) (f : Nat) : (band_Collar.f p f = some (0, 0, false) ∧ stopgateref02_Collar.f p f = some (0, 0, false)) ∨
    (1 ≤ p ∧ p ≤ 1099511627776 ∧ ∃ a b : Int, 1 ≤ a ∧ a ≤ p ∧ p ≤ b ∧ b ≤ 1099511627776 ∧ band_Collar.f p f = some (a, b, true) ∧ stopgateref02_Collar.f p f = some (a, b, true)) := by
  unfold band_Collar.f stopgateref02_Collar.f
  rw [right_f, rright_f, Option.bind_some, Option.bind_some]
  cases hf : frac f with
  | false => left; constructor <;> rfl
  | true =>
    rw [if_pos rfl, if_pos rfl]
    by_cases h0 : p < 1
    · left; rw [if_pos h0, if_pos h0]; exact ⟨rfl, rfl⟩
    · rw [if_neg h0, if_neg h0]
      by_cases h1 : p > 1099511627776
      · left; rw [if_pos h1, if_pos h1]; exact ⟨rfl, rfl⟩
      · right
        rw [if_neg h1, if_neg h1]
        obtain ⟨D, hD0, hD1, e1, e2⟩ := far_f p (by omega) (by omega) f hf
        refine ⟨by omega, by omega, mx (p - D) 1, mn (p + D) 1099511627776, ?_⟩
        rw [e1, e2, Option.bind_some, w64_in (by omega) (by omega), w64_in (by omega) (by omega)]
        unfold mx mn
        refine ⟨?_, ?_, ?_, ?_, rfl, rfl⟩
        · split <;> omega
        · split <;> omega
        · split <;> omega
        · split <;> omega
theorem within_f (p q : Int) (f : Nat) (a b : Int) (h : band_Collar.f p f = some (a, b, true)) : band_Within.f p q f = some (decide (a ≤ q) && decide (q ≤ b)) := by
  unfold band_Within.f
  rw [h]
  simp only [Option.bind_some, if_true]
  by_cases h1 : a ≤ q
  · simp [h1]
  · simp [h1]
theorem within_no (p q : Int) (f : Nat) (h : band_Collar.f p f = some (0, 0, false)) : band_Within.f p q f = some false := by
  unfold band_Within.f; rw [h]; rfl
theorem rwithin_f (p q : Int) (f : Nat) (a b : Int) (h : stopgateref02_Collar.f p f = some (a, b, true)) : stopgateref02_Within.f p q f = some (decide (a ≤ q) && decide (q ≤ b)) := by
  unfold stopgateref02_Within.f
  rw [h]
  simp only [Option.bind_some, if_true]
  by_cases h1 : q ≥ a
  · simp [h1, show a ≤ q from h1]
  · simp [h1, show ¬ a ≤ q from h1]
theorem rwithin_no (p q : Int) (f : Nat) (h : stopgateref02_Collar.f p f = some (0, 0, false)) : stopgateref02_Within.f p q f = some false := by
  unfold stopgateref02_Within.f; rw [h]; rfl
theorem BandCollars : stopgatelaw02_BandCollars.Pure := by
  intro p bits q _ _ _
  unfold stopgatelaw02_BandCollars.f
  rcases collar_f p bits.toNat with ⟨h1, h2⟩ | ⟨hp0, hp1, a, b, ha, hap, hpb, hb, h1, h2⟩
  · rw [h1, h2]
    simp only [Option.bind_some]
    rw [told_f, Option.bind_some, if_pos rfl]
    simp only [if_true]
    rw [if_neg (by simp), right_f, rright_f, Option.bind_some, Option.bind_some, if_neg (by simp), within_no _ _ _ h1, rwithin_no _ _ _ h2, Option.bind_some, Option.bind_some, if_neg (by simp)]
    simp
  · rw [h1, h2]
    simp only [Option.bind_some]
    rw [told_f, Option.bind_some, if_pos rfl]
    simp only [if_true]
    rw [if_neg (by simp), right_f, rright_f, Option.bind_some, Option.bind_some, if_neg (by simp), within_f _ _ _ _ _ h1, rwithin_f _ _ _ _ _ h2, Option.bind_some, Option.bind_some, if_neg (by simp)]
    rw [within_f _ _ _ _ _ h1, Option.bind_some, if_pos (by simp; omega), within_f _ _ _ _ _ h1, Option.bind_some, if_pos (by simp; omega), within_f _ _ _ _ _ h1, Option.bind_some, if_pos (by simp; omega), w64_in (by omega) (by omega), w64_in (by omega) (by omega), within_f _ _ _ _ _ h1, Option.bind_some, if_neg (by simp; omega), within_f _ _ _ _ _ h1, Option.bind_some]
    simp only [Option.some.injEq, Bool.not_eq_true', Bool.and_eq_false_iff, decide_eq_false_iff_not]
    omega
end Go.Proofs.Ytnodcekkbbmfnaa.Pure
