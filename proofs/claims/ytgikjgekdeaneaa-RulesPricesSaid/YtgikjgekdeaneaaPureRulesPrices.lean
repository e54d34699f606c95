/- The law RulesPrices, over the printed functions alone. No condition. -/
import Derived.Test.YtgikjgekdeaneaaQRulesPricesx9
namespace Go.Proofs.Ytgikjgekdeaneaa.Pure
open Go.RowKit Go.Proofs.Ytgikjgekdeaneaa.QRulesPrices Go.Proofs.YtgikjgekdeaneaaW.PrintWords Go.Proofs.YtgikjgekdeaneaaW.PrintLast Go.Proofs.YtgikjgekdeaneaaW.PrintMore
set_option linter.unusedVariables false
set_option linter.unusedSimpArgs false
theorem pred {k d : Nat} (h : d < k) : ∃ m, k = m + 1 := ⟨k - 1, by omega⟩
abbrev ord (x y : Nat) : Option Ordering := FloatKind.f64.format.order x y
/-- Is it a fraction? -/
def frac (a : Nat) : Bool := ord a 0 == some .gt || ord a 0 == some .eq
theorem dord_self (d : Ieee.Datum) (h : d.isNaN = false) : d.order d = some .eq := by
  cases d with
  | number s m i => simp [Ieee.Datum.order, compare, compareOfLessAndEq]
  | infinity s => simp [Ieee.Datum.order, compare, compareOfLessAndEq]
  | nan s t => cases h
theorem dord_nan (d e : Ieee.Datum) (h : d.isNaN = true) : d.order e = none := by
  cases d with
  | number s m i => cases h
  | infinity s => cases h
  | nan s t => rfl
theorem ord_self (a : Nat) : (ord a a != some .eq) = (FloatKind.f64.decode a).isNaN := by
  unfold ord Ieee.Format.order
  show ((FloatKind.f64.decode a).order (FloatKind.f64.decode a) != some .eq) = _
  cases h : (FloatKind.f64.decode a).isNaN with
  | true => rw [dord_nan _ _ h]; rfl
  | false => rw [dord_self _ h]; rfl
theorem frac_nan (a : Nat) (h : (FloatKind.f64.decode a).isNaN = true) : frac a = false := by
  unfold frac ord Ieee.Format.order
  have : (FloatKind.f64.format.read a).order (FloatKind.f64.format.read 0) = none := dord_nan _ _ h
  rw [this]; rfl
theorem right_f (a : Nat) : band_Right.f a = some (frac a) := by
  unfold band_Right.f math_IsNaN.f
  rw [Option.bind_some]
  rw [show (FloatKind.f64.format.order a a != some .eq) = _ from ord_self a]
  cases h : (FloatKind.f64.decode a).isNaN with
  | true => rw [if_pos rfl, frac_nan a h]
  | false => rw [if_neg (by simp)]; rfl
theorem rright_f (a : Nat) : stopgateref02_Right.f a = some (frac a) := rfl
open Ieee (Datum)
theorem rd_word (s : Bool) (r : Nat) (hr : r ≤ 9218868437227405312) : Ieee.double.read (Ieee.double.word s r) =
    if r < 4503599627370496 then Datum.number s r (-1074) else if r < 9218868437227405312 then Datum.number s (4503599627370496 + r % 4503599627370496) (-1074 + ((r / 4503599627370496 - 1 : Nat) : Int)) else Datum.infinity s := by
  have hw : Ieee.double.signWeight = 9223372036854775808 := by decide
  have hb : Ieee.double.binade = 4503599627370496 := by decide
  have hi : Ieee.double.infRung = 9218868437227405312 := by decide
  have hl : Ieee.double.leastPlace = -1074 := by decide
  have e1 : (Ieee.double.word s r / Ieee.double.signWeight % 2 == 1) = s := by
    unfold Ieee.Format.word; rw [hw]
    cases s
    · rw [if_neg (by simp), Nat.div_eq_of_lt (by omega)]; rfl
    · rw [if_pos rfl]
      have : (9223372036854775808 + r) / 9223372036854775808 = 1 := by omega
      rw [this]; rfl
  have e2 : Ieee.double.word s r % Ieee.double.signWeight = r := by
    unfold Ieee.Format.word; rw [hw]
    cases s
    · rw [if_neg (by simp)]; omega
    · rw [if_pos rfl]; omega
  unfold Ieee.Format.read
  simp only
  rw [e1, e2, hb, hi, hl]
  split
  · rfl
  · split
    · rfl
    · rw [if_pos (by omega)]
theorem cut_floor (way : Ieee.Toward) (n drop : Nat) (h : way = .zero ∨ way = .down) : way.cut false n drop = n / 2 ^ drop := by
  have e : (1 : Nat) <<< min drop (n.log2 + 2) = 2 ^ min drop (n.log2 + 2) := by rw [Nat.shiftLeft_eq, Nat.one_mul]
  unfold Ieee.Toward.cut
  simp only [e]
  have hm : (match way with
    | .even => decide (2 ^ min drop (n.log2 + 2) < 2 * (n % 2 ^ min drop (n.log2 + 2))) || 2 ^ min drop (n.log2 + 2) == 2 * (n % 2 ^ min drop (n.log2 + 2)) && n / 2 ^ min drop (n.log2 + 2) % 2 == 1
    | .down => false && n % 2 ^ min drop (n.log2 + 2) != 0
    | .up => !false && n % 2 ^ min drop (n.log2 + 2) != 0
    | .zero => false) = false := by rcases h with rfl | rfl <;> rfl
  have hq : n / 2 ^ min drop (n.log2 + 2) = n / 2 ^ drop := by
    rcases Nat.le_total drop (n.log2 + 2) with hd | hd
    · rw [Nat.min_eq_left hd]
    · rw [Nat.min_eq_right hd]
      have h1 : n < 2 ^ (n.log2 + 1) := Nat.lt_log2_self
      have h2 : 2 ^ (n.log2 + 1) ≤ 2 ^ (n.log2 + 2) := Nat.pow_le_pow_right (by omega) (by omega)
      have h3 : 2 ^ (n.log2 + 2) ≤ 2 ^ drop := Nat.pow_le_pow_right (by omega) hd
      rw [Nat.div_eq_of_lt (by omega), Nat.div_eq_of_lt (by omega)]
  rcases h with rfl | rfl
  · show n / 2 ^ min drop (n.log2 + 2) + 0 = _
    rw [hq]; rfl
  · show n / 2 ^ min drop (n.log2 + 2) + (false && n % 2 ^ min drop (n.log2 + 2) != 0).toNat = _
    rw [hq, Bool.false_and]; rfl
/-- A number's whole part. -/
def tr (m : Nat) (i : Int) : Nat := (m * 2 ^ i.toNat) / 2 ^ (-i).toNat
theorem integral_floor (way : Ieee.Toward) (h : way = .zero ∨ way = .down) (m : Nat) (i : Int) : (Datum.number false m i).integral way = Datum.number false (tr m i) 0 := by
  unfold Datum.integral tr
  simp only
  rw [cut_floor way _ _ h, Nat.shiftLeft_eq]
theorem toInt_zero (m : Nat) (i : Int) : (Datum.number false m i).toInt .zero = some (tr m i : Int) := by
  unfold Datum.toInt
  rw [integral_floor .zero (.inl rfl)]
  simp [Ieee.signed]
theorem cut_none (n : Nat) : Ieee.Toward.even.cut false n 0 = n := by
  unfold Ieee.Toward.cut
  simp
  omega
theorem nearest_int (n : Nat) (h0 : 0 < n) (h1 : n < 9007199254740992) : FloatKind.f64.decode (FloatKind.f64.encode (.number false n 0)) = Datum.number false (n * 2 ^ (52 - n.log2)) ((n.log2 : Int) - 52) := by
  have hL : n.log2 ≤ 52 := by
    have := (Nat.log2_lt (by omega : n ≠ 0)).2 (show n < 2 ^ 53 by omega)
    omega
  have hlo : 2 ^ n.log2 ≤ n := Nat.log2_self_le (by omega)
  have hhi : n < 2 ^ (n.log2 + 1) := Nat.lt_log2_self
  have hk1 : 4503599627370496 ≤ n * 2 ^ (52 - n.log2) := by
    have : 2 ^ n.log2 * 2 ^ (52 - n.log2) ≤ n * 2 ^ (52 - n.log2) := Nat.mul_le_mul_right _ hlo
    rw [← Nat.pow_add, show n.log2 + (52 - n.log2) = 52 by omega] at this
    exact this
  have hk2 : n * 2 ^ (52 - n.log2) < 9007199254740992 := by
    have : n * 2 ^ (52 - n.log2) < 2 ^ (n.log2 + 1) * 2 ^ (52 - n.log2) := Nat.mul_lt_mul_of_pos_right hhi (Nat.pow_pos (by omega))
    rw [← Nat.pow_add, show n.log2 + 1 + (52 - n.log2) = 53 by omega] at this
    exact this
  have hw : FloatKind.f64.encode (.number false n 0) = Ieee.double.word false ((n.log2 + 1022) * 4503599627370496 + n * 2 ^ (52 - n.log2)) := by
    show Ieee.double.nearest false n 0 = _
    unfold Ieee.Format.nearest
    rw [if_neg (by omega)]
    have hl : Ieee.double.leastPlace = -1074 := by decide
    have hi : Ieee.double.infRung = 9218868437227405312 := by decide
    have hb : Ieee.double.binade = 4503599627370496 := by decide
    have hf : (Ieee.double.fractionBits : Int) = 52 := by decide
    have hlast : max ((0 : Int) + (n.log2 : Int) - (Ieee.double.fractionBits : Int)) Ieee.double.leastPlace = (n.log2 : Int) - 52 := by rw [hf, hl]; omega
    simp only [hlast]
    rw [show ((0 : Int) - ((n.log2 : Int) - 52)).toNat = 52 - n.log2 by omega, show ((n.log2 : Int) - 52 - 0).toNat = 0 by omega, cut_none, Nat.shiftLeft_eq, hl, hi, hb, show ((n.log2 : Int) - 52 - -1074).toNat = n.log2 + 1022 by omega, Nat.min_eq_left (by omega)]
  rw [hw]
  show Ieee.double.read _ = _
  rw [rd_word _ _ (by omega), if_neg (by omega), if_pos (by omega)]
  have e1 : ((n.log2 + 1022) * 4503599627370496 + n * 2 ^ (52 - n.log2)) % 4503599627370496 = n * 2 ^ (52 - n.log2) - 4503599627370496 := by omega
  have e2 : ((n.log2 + 1022) * 4503599627370496 + n * 2 ^ (52 - n.log2)) / 4503599627370496 = n.log2 + 1023 := by omega
  rw [e1, e2, show 4503599627370496 + (n * 2 ^ (52 - n.log2) - 4503599627370496) = n * 2 ^ (52 - n.log2) by omega, show (-1074 : Int) + ((n.log2 + 1023 - 1 : Nat) : Int) = (n.log2 : Int) - 52 by omega]
theorem tr_int (n : Nat) (h1 : n < 9007199254740992) (h0 : 0 < n) : tr (n * 2 ^ (52 - n.log2)) ((n.log2 : Int) - 52) = n := by
  have hL : n.log2 ≤ 52 := by
    have := (Nat.log2_lt (by omega : n ≠ 0)).2 (show n < 2 ^ 53 by omega)
    omega
  unfold tr
  rw [show ((n.log2 : Int) - 52).toNat = 0 by omega, show (-((n.log2 : Int) - 52)).toNat = 52 - n.log2 by omega, Nat.pow_zero, Nat.mul_one, Nat.mul_div_cancel _ (Nat.pow_pos (by omega))]
/-- What 'nearest' writes reads as a number, or an infinity, of that sign. -/
theorem dec_enc (s : Bool) (m : Nat) (i : Int) : (∃ m' i', FloatKind.f64.decode (FloatKind.f64.encode (.number s m i)) = Datum.number s m' i') ∨ FloatKind.f64.decode (FloatKind.f64.encode (.number s m i)) = Datum.infinity s := by
  have hw : ∃ r, r ≤ 9218868437227405312 ∧ FloatKind.f64.encode (.number s m i) = Ieee.double.word s r := by
    show ∃ r, _ ∧ Ieee.double.nearest s m i = _
    unfold Ieee.Format.nearest
    by_cases h : m = 0
    · exact ⟨0, by omega, by rw [if_pos h]⟩
    · rw [if_neg h]
      exact ⟨_, Nat.le_trans (Nat.min_le_right _ _) (by decide), rfl⟩
  obtain ⟨r, hr, e⟩ := hw
  rw [e]
  show (∃ m' i', Ieee.double.read _ = _) ∨ Ieee.double.read _ = _
  rw [rd_word s r hr]
  by_cases h1 : r < 4503599627370496
  · rw [if_pos h1]; exact .inl ⟨_, _, rfl⟩
  · rw [if_neg h1]
    by_cases h2 : r < 9218868437227405312
    · rw [if_pos h2]; exact .inl ⟨_, _, rfl⟩
    · rw [if_neg h2]; exact .inr rfl
def big : Nat := 4787326403894837248
theorem dec_big : FloatKind.f64.format.read 4787326403894837248 = Datum.number false 4503599627370496 (-12) := by decide +kernel
theorem dec_max : FloatKind.f64.format.read 9218868437227405311 = Datum.number false 9007199254740991 971 := by decide +kernel
/-- A fraction, as a datum. -/
theorem frac_cases (f : Nat) (h : frac f = true) : (∃ m i, FloatKind.f64.format.read f = Datum.number false m i) ∨ (∃ i, FloatKind.f64.format.read f = Datum.number true 0 i) ∨ FloatKind.f64.format.read f = Datum.infinity false := by
  unfold frac ord Ieee.Format.order at h
  have hz : FloatKind.f64.format.read 0 = Datum.number false 0 (-1074) := by decide +kernel
  rw [hz] at h
  generalize hd : FloatKind.f64.format.read f = d at h ⊢
  cases d with
  | number s m i =>
    cases s with
    | false => exact .inl ⟨m, i, rfl⟩
    | true =>
      refine .inr (.inl ⟨i, ?_⟩)
      simp only [Datum.order, Ieee.signed, if_true, Nat.zero_shiftLeft] at h
      have hm : m <<< (i - min i (-1074)).toNat = 0 := by
        rcases Nat.eq_zero_or_pos (m <<< (i - min i (-1074)).toNat) with h0 | h0
        · exact h0
        · exfalso
          have : compare (-((m <<< (i - min i (-1074)).toNat : Nat) : Int)) ((0 : Nat) : Int) = .lt := Int.compare_eq_lt.2 (by omega)
          simp only [Bool.false_eq_true, if_false] at h
          rw [this] at h
          simp at h
      rw [Nat.shiftLeft_eq] at hm
      have : m = 0 := by
        rcases Nat.mul_eq_zero.1 hm with h | h
        · exact h
        · exact absurd h (Nat.pos_iff_ne_zero.1 (Nat.pow_pos (by omega)))
      rw [this]
  | infinity s =>
    cases s with
    | false => exact .inr (.inr rfl)
    | true => simp [Datum.order] at h
  | nan s t => simp [Datum.order] at h
theorem ord_num (x y : Nat) (m n : Nat) (i j : Int) (hx : FloatKind.f64.format.read x = Datum.number false m i) (hy : FloatKind.f64.format.read y = Datum.number false n j) :
    FloatKind.f64.format.order x y = some (compare ((m * 2 ^ (i - min i j).toNat : Nat) : Int) ((n * 2 ^ (j - min i j).toNat : Nat) : Int)) := by
  unfold Ieee.Format.order
  rw [hx, hy]
  simp [Datum.order, Ieee.signed, Nat.shiftLeft_eq]
theorem below_big (x m : Nat) (i : Int) (hx : FloatKind.f64.format.read x = Datum.number false m i) (h : (FloatKind.f64.format.order x 4787326403894837248 == some .gt || FloatKind.f64.format.order x 4787326403894837248 == some .eq) = false) :
    tr m i < 1099511627776 ∧ (FloatKind.f64.format.order x 9218868437227405311 == some .gt) = false := by
  rw [ord_num x _ m _ i _ hx dec_big] at h
  have hlt : m * 2 ^ (i - min i (-12)).toNat < 4503599627370496 * 2 ^ (-12 - min i (-12)).toNat := by
    rcases Nat.lt_or_ge (m * 2 ^ (i - min i (-12)).toNat) (4503599627370496 * 2 ^ (-12 - min i (-12)).toNat) with h' | h'
    · exact h'
    · exfalso
      rcases Nat.lt_or_eq_of_le h' with h2 | h2
      · rw [Int.compare_eq_gt.2 (by omega)] at h; simp at h
      · rw [Int.compare_eq_eq.2 (by omega)] at h; simp at h
  have htr : tr m i < 1099511627776 := by
    unfold tr
    rw [Nat.div_lt_iff_lt_mul (Nat.pow_pos (by omega))]
    by_cases hi : i < -12
    · rw [show min i (-12) = i by omega, show (i - i).toNat = 0 by omega, Nat.pow_zero, Nat.mul_one] at hlt
      rw [show i.toNat = 0 by omega, Nat.pow_zero, Nat.mul_one]
      have e : (2 : Nat) ^ (-i).toNat = 2 ^ 12 * 2 ^ (-12 - i).toNat := by rw [← Nat.pow_add]; congr 1; omega
      rw [e]; omega
    · rw [show min i (-12) = -12 by omega, show ((-12 : Int) - -12).toNat = 0 by omega, Nat.pow_zero, Nat.mul_one] at hlt
      by_cases h0 : 0 ≤ i
      · rw [show (-i).toNat = 0 by omega, Nat.pow_zero, Nat.mul_one]
        have e : (2 : Nat) ^ (i - -12).toNat = 2 ^ i.toNat * 2 ^ 12 := by rw [← Nat.pow_add]; congr 1; omega
        rw [e, ← Nat.mul_assoc] at hlt
        omega
      · rw [show i.toNat = 0 by omega, Nat.pow_zero, Nat.mul_one]
        have e : (2 : Nat) ^ (i - -12).toNat * 2 ^ (-i).toNat = 2 ^ 12 := by rw [← Nat.pow_add]; congr 1; omega
        have hp : 0 < 2 ^ (i - -12).toNat := Nat.pow_pos (by omega)
        have hq : m * 2 ^ (i - -12).toNat * 2 ^ (-i).toNat < 4503599627370496 * 2 ^ (-i).toNat := Nat.mul_lt_mul_of_pos_right hlt (Nat.pow_pos (by omega))
        rw [Nat.mul_assoc, e] at hq
        omega
  refine ⟨htr, ?_⟩
  rw [ord_num x _ m _ i _ hx dec_max]
  have hle : m * 2 ^ (i - min i 971).toNat ≤ 9007199254740991 * 2 ^ (971 - min i 971).toNat := by
    by_cases hi : i < -12
    · rw [show min i (-12) = i by omega, show (i - i).toNat = 0 by omega, Nat.pow_zero, Nat.mul_one] at hlt
      rw [show min i 971 = i by omega, show (i - i).toNat = 0 by omega, Nat.pow_zero, Nat.mul_one]
      obtain ⟨q, hq⟩ : ∃ q : Nat, q = 983 := ⟨_, rfl⟩
      have e : (2 : Nat) ^ (971 - i).toNat = 2 ^ q * 2 ^ (-12 - i).toNat := by rw [← Nat.pow_add]; congr 1; omega
      rw [e]
      have h3 : 4503599627370496 * 2 ^ (-12 - i).toNat ≤ 9007199254740991 * (2 ^ q * 2 ^ (-12 - i).toNat) := by
        rw [← Nat.mul_assoc]
        exact Nat.mul_le_mul_right _ (Nat.le_trans (by decide : 4503599627370496 ≤ 9007199254740991) (Nat.le_mul_of_pos_right _ (Nat.pow_pos (by omega))))
      omega
    · rw [show min i (-12) = -12 by omega, show ((-12 : Int) - -12).toNat = 0 by omega, Nat.pow_zero, Nat.mul_one] at hlt
      have hp : 0 < 2 ^ (i - -12).toNat := Nat.pow_pos (by omega)
      have hm : m < 4503599627370496 := Nat.lt_of_le_of_lt (Nat.le_mul_of_pos_right m hp) hlt
      by_cases h9 : i ≤ 971
      · rw [show min i 971 = i by omega, show (i - i).toNat = 0 by omega, Nat.pow_zero, Nat.mul_one]
        have hp2 : 0 < 2 ^ (971 - i).toNat := Nat.pow_pos (by omega)
        have := Nat.le_mul_of_pos_right 9007199254740991 hp2
        omega
      · rw [show min i 971 = 971 by omega, show ((971 : Int) - 971).toNat = 0 by omega, Nat.pow_zero, Nat.mul_one]
        have h2 : 2 ^ (i - 971).toNat ≤ 2 ^ (i - -12).toNat := Nat.pow_le_pow_right (by omega) (by omega)
        have h3 : m * 2 ^ (i - 971).toNat ≤ m * 2 ^ (i - -12).toNat := Nat.mul_le_mul_left _ h2
        omega
  rcases Nat.lt_or_eq_of_le hle with h2 | h2
  · rw [Int.compare_eq_lt.2 (by omega)]; rfl
  · rw [Int.compare_eq_eq.2 (by omega)]; rfl
theorem inf_gt (x y m : Nat) (i : Int) (s : Bool) (hx : FloatKind.f64.format.read x = Datum.infinity false) (hy : FloatKind.f64.format.read y = Datum.number s m i) : FloatKind.f64.format.order x y = some .gt := by
  unfold Ieee.Format.order; rw [hx, hy]; rfl
theorem floor_val (x m : Nat) (i : Int) (hx : FloatKind.f64.format.read x = Datum.number false m i) (h : tr m i < 1099511627776) : notNan x = true ∧ floatToIntVal .f64 (flr x) .i64 = some (tr m i : Int) ∧ floatToIntVal .f64 x .i64 = some (tr m i : Int) := by
  have hd : FloatKind.f64.decode x = Datum.number false m i := hx
  have hmin : IntKind.i64.min = -9223372036854775808 := by decide
  have hmax : IntKind.i64.max = 9223372036854775807 := by decide
  refine ⟨by unfold notNan; rw [hd]; rfl, ?_, ?_⟩
  · unfold flr
    rw [hd, integral_floor .down (.inr rfl)]
    unfold floatToIntVal
    rcases Nat.eq_zero_or_pos (tr m i) with h0 | h0
    · rw [h0]; decide +kernel
    · rw [nearest_int _ h0 (by omega), toInt_zero, tr_int _ (by omega) h0, hmin, hmax]
      simp only
      rw [if_pos (by omega)]
  · unfold floatToIntVal
    rw [hd, toInt_zero, hmin, hmax]
    simp only
    rw [if_pos (by omega)]
/-- Rounding to the nearest, between two to the even one. -/
def rnd (n d : Nat) : Nat := n / 2 ^ d + (decide (2 ^ d < 2 * (n % 2 ^ d)) || 2 ^ d == 2 * (n % 2 ^ d) && n / 2 ^ d % 2 == 1).toNat
theorem cut_even (s : Bool) (n drop : Nat) : Ieee.Toward.even.cut s n drop = rnd n drop := by
  have e : (1 : Nat) <<< min drop (n.log2 + 2) = 2 ^ min drop (n.log2 + 2) := by rw [Nat.shiftLeft_eq, Nat.one_mul]
  unfold Ieee.Toward.cut
  simp only [e]
  show rnd n (min drop (n.log2 + 2)) = _
  rcases Nat.le_total drop (n.log2 + 2) with hd | hd
  · rw [Nat.min_eq_left hd]
  · rw [Nat.min_eq_right hd]
    have h1 : n < 2 ^ (n.log2 + 1) := Nat.lt_log2_self
    have h2 : 2 ^ (n.log2 + 2) = 2 * 2 ^ (n.log2 + 1) := by rw [show n.log2 + 2 = (n.log2 + 1) + 1 by omega, Nat.pow_succ]; omega
    have h3 : 2 ^ (n.log2 + 2) ≤ 2 ^ drop := Nat.pow_le_pow_right (by omega) hd
    have z : ∀ d, 2 * n < 2 ^ d → rnd n d = 0 := by
      intro d hd
      unfold rnd
      rw [Nat.div_eq_of_lt (by omega), Nat.mod_eq_of_lt (by omega), decide_eq_false (by omega)]
      simp
    rw [z _ (by omega), z _ (by omega)]
theorem rnd_mono (a b d : Nat) (h : a ≤ b) : rnd a d ≤ rnd b d := by
  unfold rnd
  have hG : 0 < 2 ^ d := Nat.pow_pos (by omega)
  generalize 2 ^ d = G at hG
  have hq : a / G ≤ b / G := Nat.div_le_div_right h
  rcases Nat.lt_or_eq_of_le hq with hlt | heq
  · have : (decide (G < 2 * (a % G)) || G == 2 * (a % G) && a / G % 2 == 1).toNat ≤ 1 := Bool.toNat_le _
    omega
  · have ha := Nat.div_add_mod a G
    have hb := Nat.div_add_mod b G
    rw [heq] at ha ⊢
    have hm : a % G ≤ b % G := by omega
    generalize a % G = x at hm
    generalize b % G = y at hm
    generalize b / G = q
    by_cases hy : G < 2 * y
    · simp only [hy, decide_true, Bool.true_or, Bool.toNat_true]
      exact Nat.add_le_add_left (Bool.toNat_le _) _
    · by_cases hx : G < 2 * x
      · omega
      · by_cases hxe : G = 2 * x
        · have : y = x := by omega
          subst this
          exact Nat.le_refl _
        · rw [decide_eq_false hx, beq_false_of_ne hxe]
          simp
theorem rnd_two (n d : Nat) : rnd (2 * n) (d + 1) = rnd n d := by
  unfold rnd
  have e : 2 ^ (d + 1) = 2 * 2 ^ d := by rw [Nat.pow_succ]; omega
  rw [e]
  have hG : 0 < 2 ^ d := Nat.pow_pos (by omega)
  generalize 2 ^ d = G at hG
  rw [Nat.mul_div_mul_left _ _ (by omega), Nat.mul_mod_mul_left]
  have h1 : decide (2 * G < 2 * (2 * (n % G))) = decide (G < 2 * (n % G)) := by
    rw [decide_eq_decide]; omega
  have h2 : (2 * G == 2 * (2 * (n % G))) = (G == 2 * (n % G)) := by
    rw [Bool.eq_iff_iff, beq_iff_eq, beq_iff_eq]; omega
  rw [h1, h2]
theorem rnd_le (n d B : Nat) (h : n < B * 2 ^ d) : rnd n d ≤ B := by
  unfold rnd
  have : n / 2 ^ d < B := (Nat.div_lt_iff_lt_mul (Nat.pow_pos (by omega))).2 h
  have h1 := Bool.toNat_le (decide (2 ^ d < 2 * (n % 2 ^ d)) || 2 ^ d == 2 * (n % 2 ^ d) && n / 2 ^ d % 2 == 1)
  omega
theorem le_rnd (n d B : Nat) (h : B * 2 ^ d ≤ n) : B ≤ rnd n d := by
  unfold rnd
  have : B ≤ n / 2 ^ d := (Nat.le_div_iff_mul_le (Nat.pow_pos (by omega))).2 h
  omega
/-- The rung of a positive number. -/
def rungOf (n : Nat) (j last : Int) : Nat := min ((last + 1074).toNat * 4503599627370496 + rnd (n * 2 ^ (j - last).toNat) (last - j).toNat) 9218868437227405312
def lastOf (n : Nat) (j : Int) : Int := max (j + (n.log2 : Int) - 52) (-1074)
theorem near_eq (n : Nat) (j : Int) (h : n ≠ 0) : Ieee.double.nearest false n j = rungOf n j (lastOf n j) := by
  unfold Ieee.Format.nearest
  rw [if_neg h]
  have hl : Ieee.double.leastPlace = -1074 := by decide
  have hi : Ieee.double.infRung = 9218868437227405312 := by decide
  have hb : Ieee.double.binade = 4503599627370496 := by decide
  have hf : (Ieee.double.fractionBits : Int) = 52 := by decide
  simp only [hl, hi, hb, hf, cut_even, Nat.shiftLeft_eq]
  unfold rungOf lastOf Ieee.Format.word
  rw [if_neg (by simp), show max (j + (n.log2 : Int) - 52) (-1074) - -1074 = max (j + (n.log2 : Int) - 52) (-1074) + 1074 by omega]
theorem near_zero (j : Int) : Ieee.double.nearest false 0 j = 0 := by
  unfold Ieee.Format.nearest
  rw [if_pos rfl]; rfl
theorem log2_mono {a b : Nat} (ha : a ≠ 0) (h : a ≤ b) : a.log2 ≤ b.log2 := by
  have h1 : 2 ^ a.log2 ≤ a := Nat.log2_self_le ha
  exact (Nat.le_log2 (by omega)).2 (by omega)
theorem min_up (x y c : Nat) (h : x ≤ y) : min x c ≤ min y c := by omega
theorem rung_join (la lb B ka kb : Nat) (h : la + 1 ≤ lb) (ha : ka ≤ 2 * B) (hb : B ≤ kb) : la * B + ka ≤ lb * B + kb := by
  have h1 : (la + 1) * B ≤ lb * B := Nat.mul_le_mul_right _ h
  rw [Nat.add_mul, Nat.one_mul] at h1
  omega
theorem near_mono (a b : Nat) (j : Int) (h : a ≤ b) : Ieee.double.nearest false a j ≤ Ieee.double.nearest false b j := by
  by_cases ha : a = 0
  · subst ha; rw [near_zero]; omega
  have hb : b ≠ 0 := by omega
  rw [near_eq _ _ ha, near_eq _ _ hb]
  have hL := log2_mono ha h
  have hlast : lastOf a j ≤ lastOf b j := by unfold lastOf; omega
  unfold rungOf
  suffices hs : (lastOf a j + 1074).toNat * 4503599627370496 + rnd (a * 2 ^ (j - lastOf a j).toNat) (lastOf a j - j).toNat ≤ (lastOf b j + 1074).toNat * 4503599627370496 + rnd (b * 2 ^ (j - lastOf b j).toNat) (lastOf b j - j).toNat from min_up _ _ _ hs
  by_cases he : lastOf a j = lastOf b j
  · rw [he]
    exact Nat.add_le_add_left (rnd_mono _ _ _ (Nat.mul_le_mul_right _ h)) _
  · have hb2 : lastOf b j = j + (b.log2 : Int) - 52 := by unfold lastOf at he hlast ⊢; omega
    have ha1 : j + (a.log2 : Int) - 52 ≤ lastOf a j := by unfold lastOf; omega
    have ha2 : -1074 ≤ lastOf a j := by unfold lastOf; omega
    have hka : rnd (a * 2 ^ (j - lastOf a j).toNat) (lastOf a j - j).toNat ≤ 9007199254740992 := by
      refine rnd_le _ _ _ ?_
      have h1 : a < 2 ^ (a.log2 + 1) := Nat.lt_log2_self
      rw [show 9007199254740992 = 2 ^ 53 by decide]
      rw [← Nat.pow_add]
      by_cases hj : lastOf a j ≤ j
      · have h2 : a * 2 ^ (j - lastOf a j).toNat < 2 ^ (a.log2 + 1) * 2 ^ (j - lastOf a j).toNat := Nat.mul_lt_mul_of_pos_right h1 (Nat.pow_pos (by omega))
        rw [← Nat.pow_add] at h2
        exact Nat.lt_of_lt_of_le h2 (Nat.pow_le_pow_right (by omega) (by omega))
      · rw [show (j - lastOf a j).toNat = 0 by omega, Nat.pow_zero, Nat.mul_one]
        exact Nat.lt_of_lt_of_le h1 (Nat.pow_le_pow_right (by omega) (by omega))
    have hkb : 4503599627370496 ≤ rnd (b * 2 ^ (j - lastOf b j).toNat) (lastOf b j - j).toNat := by
      refine le_rnd _ _ _ ?_
      have h1 : 2 ^ b.log2 ≤ b := Nat.log2_self_le hb
      rw [show 4503599627370496 = 2 ^ 52 by decide]
      rw [← Nat.pow_add]
      have h2 : 2 ^ b.log2 * 2 ^ (j - lastOf b j).toNat ≤ b * 2 ^ (j - lastOf b j).toNat := Nat.mul_le_mul_right _ h1
      rw [← Nat.pow_add] at h2
      exact Nat.le_trans (Nat.pow_le_pow_right (by omega) (by omega)) h2
    exact rung_join _ _ 4503599627370496 _ _ (by omega) hka hkb
theorem log2_two (n : Nat) (h : n ≠ 0) : (2 * n).log2 = n.log2 + 1 := by
  have h1 : 2 ^ n.log2 ≤ n := Nat.log2_self_le h
  have h2 : n < 2 ^ (n.log2 + 1) := Nat.lt_log2_self
  have a1 : n.log2 + 1 ≤ (2 * n).log2 := (Nat.le_log2 (by omega)).2 (by rw [Nat.pow_succ]; omega)
  have a2 : (2 * n).log2 < n.log2 + 1 + 1 := (Nat.log2_lt (by omega)).2 (by rw [Nat.pow_succ]; omega)
  omega
theorem near_two (n : Nat) (j : Int) : Ieee.double.nearest false (2 * n) j = Ieee.double.nearest false n (j + 1) := by
  by_cases hn : n = 0
  · subst hn; rw [near_zero, near_zero]
  rw [near_eq _ _ (by omega), near_eq _ _ hn]
  have hl : lastOf (2 * n) j = lastOf n (j + 1) := by unfold lastOf; rw [log2_two n hn]; omega
  rw [hl]
  generalize lastOf n (j + 1) = last
  unfold rungOf
  by_cases hj : last ≤ j
  · rw [show (last - j).toNat = 0 by omega, show (last - (j + 1)).toNat = 0 by omega, show (j + 1 - last).toNat = (j - last).toNat + 1 by omega, Nat.pow_succ, show 2 * n * 2 ^ (j - last).toNat = n * (2 ^ (j - last).toNat * 2) by rw [Nat.mul_comm 2 n, Nat.mul_assoc, Nat.mul_comm 2]]
  · rw [show (j - last).toNat = 0 by omega, show (j + 1 - last).toNat = 0 by omega, show (last - j).toNat = (last - (j + 1)).toNat + 1 by omega, Nat.pow_zero, Nat.mul_one, Nat.mul_one, rnd_two]
theorem tr_mono (a b : Nat) (i : Int) (h : a ≤ b) : tr a i ≤ tr b i := Nat.div_le_div_right (Nat.mul_le_mul_right _ h)
theorem tr_two (n : Nat) (i : Int) : tr (2 * n) i = tr n (i + 1) := by
  unfold tr
  by_cases hi : 0 ≤ i
  · rw [show (-i).toNat = 0 by omega, show (-(i + 1)).toNat = 0 by omega, show (i + 1).toNat = i.toNat + 1 by omega, Nat.pow_succ, show 2 * n * 2 ^ i.toNat = n * (2 ^ i.toNat * 2) by rw [Nat.mul_comm 2 n, Nat.mul_assoc, Nat.mul_comm 2]]
  · rw [show i.toNat = 0 by omega, show (i + 1).toNat = 0 by omega, show (-i).toNat = (-(i + 1)).toNat + 1 by omega, Nat.pow_succ, Nat.pow_zero, Nat.mul_one, Nat.mul_one, Nat.mul_comm (2 ^ _) 2, Nat.mul_div_mul_left _ _ (by omega)]
def mg (r : Nat) : Nat := if r < 4503599627370496 then r else 4503599627370496 + r % 4503599627370496
def pl (r : Nat) : Int := if r < 4503599627370496 then -1074 else -1074 + ((r / 4503599627370496 - 1 : Nat) : Int)
theorem step (r : Nat) : (pl (r + 1) = pl r ∧ mg (r + 1) = mg r + 1) ∨ (pl (r + 1) = pl r + 1 ∧ mg (r + 1) = 4503599627370496 ∧ mg r + 1 = 9007199254740992) := by
  unfold pl mg
  split <;> split <;> omega
theorem up_of_step (g : Nat → Nat) (h : ∀ r, g r ≤ g (r + 1)) (a b : Nat) (hab : a ≤ b) : g a ≤ g b := by
  induction b with
  | zero => rw [show a = 0 by omega]; exact Nat.le_refl _
  | succ b ih =>
    rcases Nat.lt_or_eq_of_le hab with h1 | h1
    · exact Nat.le_trans (ih (by omega)) (h b)
    · rw [h1]; exact Nat.le_refl _
theorem up_rung (F : Nat → Int → Nat) (h1 : ∀ a b i, a ≤ b → F a i ≤ F b i) (h2 : ∀ n i, F (2 * n) i = F n (i + 1)) (a b : Nat) (hab : a ≤ b) : F (mg a) (pl a) ≤ F (mg b) (pl b) := by
  refine up_of_step (fun r => F (mg r) (pl r)) (fun r => ?_) a b hab
  show F (mg r) (pl r) ≤ F (mg (r + 1)) (pl (r + 1))
  rcases step r with ⟨e1, e2⟩ | ⟨e1, e2, e3⟩
  · rw [e1, e2]; exact h1 _ _ _ (by omega)
  · rw [e1, e2, ← h2]; exact h1 _ _ _ (by omega)
def vl (r : Nat) : Nat := mg r * 2 ^ (pl r + 1074).toNat
theorem pl_low (r : Nat) : -1074 ≤ pl r := by unfold pl; split <;> omega
theorem vl_step (r : Nat) : vl r < vl (r + 1) := by
  unfold vl
  have hp := pl_low r
  have hG : 0 < 2 ^ (pl r + 1074).toNat := Nat.pow_pos (by omega)
  rcases step r with ⟨e1, e2⟩ | ⟨e1, e2, e3⟩
  · rw [e1, e2]; exact Nat.mul_lt_mul_of_pos_right (by omega) hG
  · rw [e1, e2, show (pl r + 1 + 1074).toNat = (pl r + 1074).toNat + 1 by omega, Nat.pow_succ]
    have h : mg r * 2 ^ (pl r + 1074).toNat < 9007199254740992 * 2 ^ (pl r + 1074).toNat := Nat.mul_lt_mul_of_pos_right (by omega) hG
    omega
theorem vl_lt (a b : Nat) (h : a < b) : vl a < vl b := Nat.lt_of_lt_of_le (vl_step a) (up_of_step vl (fun r => Nat.le_of_lt (vl_step r)) (a + 1) b (by omega))
/-- A word that reads as a positive number: its rung. -/
theorem read_pos (f m : Nat) (i : Int) (h : FloatKind.f64.format.read f = Datum.number false m i) : m = mg (f % 9223372036854775808) ∧ i = pl (f % 9223372036854775808) ∧ f % 9223372036854775808 < 9218868437227405312 := by
  have hw : Ieee.double.signWeight = 9223372036854775808 := by decide
  have hb : Ieee.double.binade = 4503599627370496 := by decide
  have hi : Ieee.double.infRung = 9218868437227405312 := by decide
  have hl : Ieee.double.leastPlace = -1074 := by decide
  have h' : Ieee.double.read f = Datum.number false m i := h
  unfold Ieee.Format.read at h'
  simp only at h'
  rw [hw, hb, hi, hl] at h'
  unfold mg pl
  generalize f % 9223372036854775808 = r at h'
  generalize (f / 9223372036854775808 % 2 == 1) = s at h'
  by_cases hr : r < 4503599627370496
  · rw [if_pos hr] at h'
    simp only [Datum.number.injEq] at h'
    obtain ⟨_, e2, e3⟩ := h'
    rw [if_pos hr, if_pos hr]
    exact ⟨e2.symm, e3.symm, by omega⟩
  · rw [if_neg hr] at h'
    by_cases hr2 : r < 9218868437227405312
    · rw [if_pos hr2] at h'
      simp only [Datum.number.injEq] at h'
      obtain ⟨_, e2, e3⟩ := h'
      rw [if_neg hr, if_neg hr]
      exact ⟨e2.symm, e3.symm, hr2⟩
    · rw [if_neg hr2] at h'
      split at h' <;> cases h'
theorem rung_gt (f g m n : Nat) (i j : Int) (hf : FloatKind.f64.format.read f = Datum.number false m i) (hg : FloatKind.f64.format.read g = Datum.number false n j) (h : g % 9223372036854775808 < f % 9223372036854775808) : FloatKind.f64.format.order f g = some .gt := by
  obtain ⟨e1, e2, _⟩ := read_pos f m i hf
  obtain ⟨e3, e4, _⟩ := read_pos g n j hg
  rw [ord_num f g m n i j hf hg]
  have hv := vl_lt _ _ h
  unfold vl at hv
  rw [← e1, ← e2, ← e3, ← e4] at hv
  have l1 : -1074 ≤ i := by rw [e2]; exact pl_low _
  have l2 : -1074 ≤ j := by rw [e4]; exact pl_low _
  have p1 : 2 ^ (i + 1074).toNat = 2 ^ (i - min i j).toNat * 2 ^ (min i j + 1074).toNat := by rw [← Nat.pow_add]; congr 1; omega
  have p2 : 2 ^ (j + 1074).toNat = 2 ^ (j - min i j).toNat * 2 ^ (min i j + 1074).toNat := by rw [← Nat.pow_add]; congr 1; omega
  rw [p1, p2, ← Nat.mul_assoc, ← Nat.mul_assoc] at hv
  have := Nat.lt_of_mul_lt_mul_right hv
  rw [Int.compare_eq_gt.2 (by omega)]
theorem above_big (x m : Nat) (i : Int) (hx : FloatKind.f64.format.read x = Datum.number false m i) (h : (FloatKind.f64.format.order x 4787326403894837248 == some .gt || FloatKind.f64.format.order x 4787326403894837248 == some .eq) = true) :
    1099511627776 ≤ tr m i := by
  rcases Nat.lt_or_ge (x % 9223372036854775808) 4787326403894837248 with hr | hr
  · exfalso
    have h1 := rung_gt 4787326403894837248 x _ m _ i dec_big hx (by omega)
    rw [ord_num _ _ _ m _ i dec_big hx, Option.some.injEq, Int.compare_eq_gt] at h1
    rw [ord_num x _ m _ i _ hx dec_big, Int.min_comm i] at h
    rw [Int.compare_eq_lt.2 h1] at h
    simp at h
  · obtain ⟨e1, e2, _⟩ := read_pos x m i hx
    rw [e1, e2]
    have := up_rung tr tr_mono tr_two 4787326403894837248 _ hr
    refine Nat.le_trans ?_ this
    decide +kernel
theorem ord_asym (a b : Nat) (h1 : ord a b = some .gt) (h2 : ord b a = some .gt) : False := by
  unfold ord Ieee.Format.order at h1 h2
  generalize FloatKind.f64.format.read a = d at h1 h2
  generalize FloatKind.f64.format.read b = e at h1 h2
  cases d with
  | number s m i =>
    cases e with
    | number t n j =>
      simp only [Ieee.Datum.order, Option.some.injEq, Int.compare_eq_gt] at h1 h2
      rw [Int.min_comm j i] at h2
      omega
    | infinity t => cases t <;> simp [Ieee.Datum.order] at h1 h2
    | nan t n => simp [Ieee.Datum.order] at h1
  | infinity s =>
    cases e with
    | number t n j => cases s <;> simp [Ieee.Datum.order] at h1 h2
    | infinity t => cases s <;> cases t <;> simp [Ieee.Datum.order] at h1 h2 <;> first | (cases h1; done) | (cases h2; done) | (revert h1 h2; decide)
    | nan t n => cases s <;> simp [Ieee.Datum.order] at h1
  | nan s m => cases e <;> simp [Ieee.Datum.order] at h1
/-- What a product comes to. -/
def cap (d : Nat) : Int := match FloatKind.f64.format.read d with
  | .number false m i => min 1099511627776 (tr m i : Int)
  | .number true _ _ => 0
  | _ => 1099511627776
def dist (m0 : Nat) (i0 : Int) (f : Nat) : Int := match FloatKind.f64.format.read f with
  | .number false m i => cap (Ieee.double.nearest false (m0 * m) (i0 + i))
  | .number true _ _ => 0
  | _ => 1099511627776
theorem near_top (n : Nat) (j : Int) : Ieee.double.nearest false n j ≤ 9218868437227405312 := by
  by_cases hn : n = 0
  · subst hn; rw [near_zero]; omega
  · rw [near_eq _ _ hn]; exact Nat.min_le_right _ _
theorem read_rung (r : Nat) (h : r ≤ 9218868437227405312) : FloatKind.f64.format.read r = if r < 9218868437227405312 then Datum.number false (mg r) (pl r) else Datum.infinity false := by
  have := rd_word false r h
  have e : Ieee.double.word false r = r := by unfold Ieee.Format.word; rw [if_neg (by simp)]
  rw [e] at this
  show Ieee.double.read r = _
  rw [this]
  unfold mg pl
  by_cases h1 : r < 4503599627370496
  · rw [if_pos h1, if_pos h1, if_pos h1, if_pos (by omega)]
  · rw [if_neg h1, if_neg h1, if_neg h1]
theorem cap_rung (r : Nat) (h : r ≤ 9218868437227405312) : cap r = if r < 9218868437227405312 then min 1099511627776 (tr (mg r) (pl r) : Int) else 1099511627776 := by
  unfold cap
  rw [read_rung r h]
  by_cases h1 : r < 9218868437227405312
  · rw [if_pos h1, if_pos h1]
  · rw [if_neg h1, if_neg h1]
theorem cap_mono (a b : Nat) (hab : a ≤ b) (hb : b ≤ 9218868437227405312) : cap a ≤ cap b := by
  rw [cap_rung a (by omega), cap_rung b hb]
  have := up_rung tr tr_mono tr_two a b hab
  split <;> split <;> omega
theorem cap_in (d : Nat) : 0 ≤ cap d ∧ cap d ≤ 1099511627776 := by
  unfold cap; split <;> omega
theorem dist_in (m0 : Nat) (i0 : Int) (f : Nat) : 0 ≤ dist m0 i0 f ∧ dist m0 i0 f ≤ 1099511627776 := by
  unfold dist
  split
  · exact cap_in _
  · omega
  · omega
theorem dist_mono (m0 : Nat) (i0 : Int) (f g : Nat) (hf : frac f = true) (hg : frac g = true) (h : ord f g ≠ some .gt) : dist m0 i0 f ≤ dist m0 i0 g := by
  rcases frac_cases f hf with ⟨m, i, e⟩ | ⟨i, e⟩ | e
  · rcases frac_cases g hg with ⟨n, j, e'⟩ | ⟨j, e'⟩ | e'
    · have hr : f % 9223372036854775808 ≤ g % 9223372036854775808 := by
        rcases Nat.lt_or_ge (g % 9223372036854775808) (f % 9223372036854775808) with h1 | h1
        · exact absurd (rung_gt f g m n i j e e' h1) h
        · exact h1
      obtain ⟨rfl, rfl, _⟩ := read_pos f m i e
      obtain ⟨rfl, rfl, _⟩ := read_pos g n j e'
      have := up_rung (fun m i => Ieee.double.nearest false (m0 * m) (i0 + i)) (fun a b i hab => near_mono _ _ _ (Nat.mul_le_mul_left _ hab)) (fun n i => by
        show Ieee.double.nearest false (m0 * (2 * n)) (i0 + i) = Ieee.double.nearest false (m0 * n) (i0 + (i + 1))
        rw [Nat.mul_left_comm, near_two, Int.add_assoc]) _ _ hr
      unfold dist
      rw [e, e']
      exact cap_mono _ _ this (near_top _ _)
    · have h2 : dist m0 i0 g = 0 := by unfold dist; rw [e']
      by_cases hm : m = 0
      · subst hm
        have h1 : dist m0 i0 f = 0 := by
          unfold dist; rw [e]
          show cap (Ieee.double.nearest false (m0 * 0) (i0 + i)) = 0
          rw [Nat.mul_zero, near_zero]
          decide +kernel
        omega
      · exfalso
        apply h
        unfold ord Ieee.Format.order
        rw [e, e']
        have hp : 0 < m * 2 ^ (i - min i j).toNat := Nat.mul_pos (by omega) (Nat.pow_pos (by omega))
        simp only [Datum.order, Ieee.signed, Nat.shiftLeft_eq, Bool.false_eq_true, if_false, if_true, Nat.zero_mul, Option.some.injEq]
        exact Int.compare_eq_gt.2 (by omega)
    · have h1 := (dist_in m0 i0 f).2
      have h2 : dist m0 i0 g = 1099511627776 := by unfold dist; rw [e']
      omega
  · have h1 := (dist_in m0 i0 g).1
    have h2 : dist m0 i0 f = 0 := by unfold dist; rw [e]
    omega
  · rcases frac_cases g hg with ⟨n, j, e'⟩ | ⟨j, e'⟩ | e'
    · exact absurd (inf_gt f g _ _ _ e e') h
    · exact absurd (inf_gt f g _ _ _ e e') h
    · have h1 : dist m0 i0 f = 1099511627776 := by unfold dist; rw [e]
      have h2 : dist m0 i0 g = 1099511627776 := by unfold dist; rw [e']
      omega
/-- How far a price may be. -/
theorem far_val (p : Int) (h0 : 1 ≤ p) (h1 : p ≤ 1099511627776) : ∃ (m0 : Nat) (i0 : Int), ∀ f, frac f = true → band_far.f p f = some (dist m0 i0 f) := by
  have hp : FloatKind.f64.nearest p = FloatKind.f64.encode (.number false p.natAbs 0) := by
    unfold FloatKind.nearest; rw [show decide (p < 0) = false from decide_eq_false (by omega)]
  have hpr : FloatKind.f64.format.read (FloatKind.f64.nearest p) = Datum.number false (p.natAbs * 2 ^ (52 - p.natAbs.log2)) ((p.natAbs.log2 : Int) - 52) := by
    rw [hp]; exact nearest_int _ (by omega) (by omega)
  have hpos : p.natAbs * 2 ^ (52 - p.natAbs.log2) ≠ 0 := by
    have : 0 < p.natAbs * 2 ^ (52 - p.natAbs.log2) := Nat.mul_pos (by omega) (Nat.pow_pos (by omega))
    omega
  generalize p.natAbs * 2 ^ (52 - p.natAbs.log2) = m0 at hpr hpos
  generalize (p.natAbs.log2 : Int) - 52 = i0 at hpr
  refine ⟨m0, i0, fun f hf => ?_⟩
  have hbf : ∀ d, FloatKind.f64.format.mul (FloatKind.f64.nearest p) f = some d → band_far.f p f = (if (FloatKind.f64.format.order d 9218868437227405311 == some .gt) = true then some 1099511627776 else if (FloatKind.f64.format.order d 4787326403894837248 == some .gt || FloatKind.f64.format.order d 4787326403894837248 == some .eq) = true then some 1099511627776 else (math_Floor.f d).bind fun t => if (floatToIntVal .f64 t .i64).isSome = true then some ((floatToIntVal .f64 t .i64).getD 0) else none) := by
    intro d hd
    unfold band_far.f math_IsInf.f
    rw [hd]
    simp only [Option.isSome_some, if_true, Option.getD_some]
    rw [if_neg (by decide), if_neg (by decide), Option.bind_some]
  rcases frac_cases f hf with ⟨m, i, e⟩ | ⟨i, e⟩ | e
  · have hd : FloatKind.f64.format.mul (FloatKind.f64.nearest p) f = some (Ieee.double.nearest false (m0 * m) (i0 + i)) := by
      unfold Ieee.Format.mul; rw [hpr, e]; rfl
    rw [hbf _ hd]
    have hD : dist m0 i0 f = cap (Ieee.double.nearest false (m0 * m) (i0 + i)) := by unfold dist; rw [e]
    rw [hD]
    have ht := near_top (m0 * m) (i0 + i)
    generalize Ieee.double.nearest false (m0 * m) (i0 + i) = d at ht
    rw [cap_rung d ht]
    have hr := read_rung d ht
    by_cases h2 : d < 9218868437227405312
    · rw [if_pos h2] at hr ⊢
      cases hb : (FloatKind.f64.format.order d 4787326403894837248 == some .gt || FloatKind.f64.format.order d 4787326403894837248 == some .eq) with
      | true =>
        have h3 := above_big d _ _ hr hb
        rw [show (min 1099511627776 (tr (mg d) (pl d) : Int) : Int) = 1099511627776 by omega]
        split
        · rfl
        · rw [if_pos rfl]
      | false =>
        obtain ⟨h2, h3⟩ := below_big d _ _ hr hb
        obtain ⟨h4, h5, h6⟩ := floor_val d _ _ hr h2
        rw [h3, if_neg (by simp), if_neg (by simp)]
        unfold math_Floor.f
        rw [if_pos h4, Option.bind_some, h5, show (min 1099511627776 (tr (mg d) (pl d) : Int) : Int) = (tr (mg d) (pl d) : Int) by omega]; rfl
    · rw [if_neg h2] at hr ⊢
      rw [inf_gt d _ _ _ _ hr dec_max]; simp
  · have hd : FloatKind.f64.format.mul (FloatKind.f64.nearest p) f = some 9223372036854775808 := by
      unfold Ieee.Format.mul; rw [hpr, e]
      show some (Ieee.double.nearest _ (m0 * 0) _) = _
      unfold Ieee.Format.nearest
      rw [Nat.mul_zero, if_pos rfl]; decide
    have hD : dist m0 i0 f = 0 := by unfold dist; rw [e]
    rw [hbf _ hd, hD]
    decide +kernel
  · have hd : ∃ d, FloatKind.f64.format.mul (FloatKind.f64.nearest p) f = some d ∧ FloatKind.f64.format.read d = Datum.infinity false := by
      unfold Ieee.Format.mul; rw [hpr, e]
      simp only [Datum.product]
      rw [if_neg hpos]
      refine ⟨_, rfl, ?_⟩
      show Ieee.double.read (Ieee.double.word _ Ieee.double.infRung) = _
      decide +kernel
    obtain ⟨d, hd, hr⟩ := hd
    have hD : dist m0 i0 f = 1099511627776 := by unfold dist; rw [e]
    rw [hbf _ hd, hD, inf_gt d _ _ _ _ hr dec_max]; simp
theorem i64_range {n : Int} (h : (Lit.int .i64 n).wf = true) : -9223372036854775808 ≤ n ∧ n ≤ 9223372036854775807 := by
  have h' : (decide (IntKind.i64.min ≤ n) && decide (n ≤ IntKind.i64.max)) = true := h
  have e1 : IntKind.i64.min = -9223372036854775808 := by decide
  have e2 : IntKind.i64.max = 9223372036854775807 := by decide
  rw [e1, e2] at h'
  simp only [Bool.and_eq_true, decide_eq_true_eq] at h'
  exact h'
theorem w64_in {x : Int} (h0 : -9223372036854775808 ≤ x) (h1 : x ≤ 9223372036854775807) : wrap64 x = x := by unfold wrap64; omega
theorem collar_yes (p : Int) (f : Nat) (h0 : 1 ≤ p) (h1 : p ≤ 1099511627776) (hf : frac f = true) (D : Int) (hD : band_far.f p f = some D) (hD0 : 0 ≤ D ∧ D ≤ 1099511627776) : band_Collar.f p f = some (mx (p - D) 1, mn (p + D) 1099511627776, true) := by
  unfold band_Collar.f
  rw [right_f, Option.bind_some, hf, if_pos rfl, if_neg (by omega), if_neg (by omega), hD, Option.bind_some, w64_in (by omega) (by omega), w64_in (by omega) (by omega)]
theorem collar_no (p : Int) (f : Nat) (hf : frac f = false) : band_Collar.f p f = some (0, 0, false) := by
  unfold band_Collar.f
  rw [right_f, Option.bind_some, hf, if_neg (by simp)]
theorem told5 : stopgatelaw05_told.f 20 = some true := by decide +kernel
theorem half_frac : frac 4602678819172646912 = true := by decide +kernel
theorem fix_l1 (p : Int) (bits : Nat) : stopgateref05_Fix.l1 17 0 0 0 0 0 [] [] [⟨p, 0, -1, bits⟩] 1 0 1 1 [⟨-1, 1000⟩] [0] [] = some (1, 0, 1, 1, [⟨-1, 1000⟩], [0], [⟨wrap64 (1 + wrap64 (Int.tmod (IntKind.u64.wrap p) 1099511627776)), 1, 9223372036854775807, if frac bits = true then bits else 4602678819172646912⟩]) := by
  have e1 : wrap64 (1 + wrap64 (Int.tmod (IntKind.u64.wrap 0) 1099511627776)) = 1 := by decide +kernel
  have e2 : wrap64 (0 + 1) = 1 := by decide +kernel
  have hr : rd_T86 [(⟨p, 0, -1, bits⟩ : S86)] 0 = ⟨p, 0, -1, bits⟩ := rfl
  have h3 : (0 : Int) < (([⟨p, 0, -1, bits⟩] : List S86).length : Int) := by show (0 : Int) < ((1 : Nat) : Int); decide
  have h4 : ¬ (1 : Int) < (([⟨p, 0, -1, bits⟩] : List S86).length : Int) := by show ¬ (1 : Int) < ((1 : Nat) : Int); decide
  rw [stopgateref05_Fix.l1, if_pos h3, stopgateref05_Fix.j4, hr, if_pos (by decide), if_pos (by decide), if_pos h3, if_pos (show (-1 : Int) < 0 by decide), stopgateref05_Fix.j5, rright_f, Option.bind_some]
  simp only [e1, e2, List.nil_append]
  cases h : frac bits with
  | true =>
    rw [if_pos rfl, if_pos (by decide), stopgateref05_Fix.l1, if_neg h4, stopgateref05_Fix.j4, if_neg (by simp), if_neg (by simp), if_pos rfl]
  | false =>
    rw [if_neg (by simp), if_pos (by decide), stopgateref05_Fix.l1, if_neg h4, stopgateref05_Fix.j4, if_neg (by simp), if_neg (by simp), if_neg (by simp)]
theorem fix_f (p : Int) (bits : Nat) : stopgateref05_Fix.f 20 0 0 0 0 [] [] [⟨p, 0, -1, bits⟩] = some (1, 0, 1, 1, [⟨-1, 1000⟩], [0], [⟨wrap64 (1 + wrap64 (Int.tmod (IntKind.u64.wrap p) 1099511627776)), 1, 9223372036854775807, if frac bits = true then bits else 4602678819172646912⟩]) := by
  have h3 : stopgateref03_Fix.f 20 [] = some [⟨-1, 1000⟩] := by kernel_rfl
  unfold stopgateref05_Fix.f
  rw [h3, Option.bind_some]
  rw [stopgateref05_Fix.l0, if_neg (by simp), stopgateref05_Fix.j1, if_neg (by simp), if_pos (by rfl), stopgateref05_Fix.j2]
  have e0 : wrap64 (1 + wrap64 (Int.tmod (IntKind.u64.wrap 0) 3)) = 1 := by decide +kernel
  have e1 : wrap64 (Int.tmod (IntKind.u64.wrap 0) 4) = 0 := by decide +kernel
  have e2 : wrap64 (1 + wrap64 (Int.tmod (IntKind.u64.wrap 0) 6)) = 1 := by decide +kernel
  have e3 : wrap64 (1 + wrap64 (Int.tmod (IntKind.u64.wrap 0) 8)) = 1 := by decide +kernel
  have e4 : wrap64 ((([⟨-1, 1000⟩] : List S176).length : Int) - 1) = 0 := by decide +kernel
  rw [e0, e1, e2, e3, e4]
  exact fix_l1 p bits
theorem to_f (P : Int) (B : Nat) : stopgatelaw05_To.f 20 1 0 1 1 [⟨-1, 1000⟩] [0] [⟨P, 1, 9223372036854775807, B⟩] = some (1, 0, 1, 1, [⟨-1, 1000⟩], [0], [⟨P, 1, 9223372036854775807, B⟩]) := by
  have h3 : stopgatelaw03_To.f 20 [⟨-1, 1000⟩] = some [⟨-1, 1000⟩] := by kernel_rfl
  unfold stopgatelaw05_To.f
  rw [h3, Option.bind_some, Option.bind_some, if_pos (by decide)]
  rw [stopgatelaw05_To.l0, if_pos (by simp), if_pos (by decide), if_pos (by decide), stopgatelaw05_To.l0, if_neg (by simp [wrap64])]
  rfl
theorem within_f (p q : Int) (f : Nat) (a b : Int) (h : band_Collar.f p f = some (a, b, true)) : band_Within.f p q f = some (decide (a ≤ q) && decide (q ≤ b)) := by
  unfold band_Within.f
  rw [h]
  simp only [Option.bind_some, if_true]
  by_cases h1 : a ≤ q
  · simp [h1]
  · simp [h1]
theorem look_f (P q : Int) (B : Nat) (a b : Int) (hq1 : q ≤ 9223372036854775807) (h : band_Collar.f P B = some (a, b, true)) :
    rules_Look.f 20 1 0 1 1 [⟨-1, 1000⟩] [0] [⟨P, 1, 9223372036854775807, B⟩] 0 0 false q 1 0 0 = if q < 1 then some (1, 0) else if a ≤ q ∧ q ≤ b then some (0, q) else some (8, 0) := by
  unfold rules_Look.f
  have hm : mn q 1 < 1 ↔ q < 1 := by unfold mn; split <;> omega
  by_cases h1 : q < 1
  · rw [if_pos (hm.2 h1), if_pos h1, rules_Look.j0, if_pos rfl]
  · rw [if_neg (fun h => h1 (hm.1 h)), if_neg h1, rules_Look.j0, if_neg (by decide)]
    have w1 : rules_within_int.f 0 0 (wrap64 ((([0] : List Int).length : Int) - 1)) = some true := by decide +kernel
    have w2 : rules_within_int.f 0 0 (wrap64 ((([⟨P, 1, 9223372036854775807, B⟩] : List S147).length : Int) - 1)) = some true := by show rules_within_int.f 0 0 (wrap64 (((1 : Nat) : Int) - 1)) = some true; decide +kernel
    have hn : fixed_Notional.f 19 q 1 = some (q, true) := by
      unfold fixed_Notional.f fixed_Mul.f
      rw [if_neg (by omega), if_neg (by omega), if_neg (by omega), fixed_Mul.j0, if_neg (by simp), if_neg (by omega), Int.mul_one, w64_in (by omega) hq1, Int.tdiv_one, w64_in (by omega) hq1, if_pos rfl, if_neg (by omega), if_neg (by omega)]
      rfl
    rw [w1, Option.bind_some, if_pos rfl, w2, Option.bind_some, if_pos rfl, if_pos (by decide), if_pos (by simp), hn, Option.bind_some]
    have hr : rd_T147 [(⟨P, 1, 9223372036854775807, B⟩ : S147)] 0 = ⟨P, 1, 9223372036854775807, B⟩ := rfl
    rw [hr]
    dsimp only
    rw [if_neg (by decide), if_pos rfl, if_neg (by omega), within_f _ _ _ _ _ h, Option.bind_some]
    by_cases h2 : a ≤ q ∧ q ≤ b
    · rw [if_pos (by simp [h2]), if_pos h2]
    · rw [if_neg (by simpa using h2), if_neg h2]
theorem RulesPrices : stopgatelaw05_RulesPrices.Pure := by
  intro p u q hp _ hq
  obtain ⟨_, hq1⟩ := i64_range hq
  refine ⟨20, ?_⟩
  unfold stopgatelaw05_RulesPrices.f
  rw [fix_f, Option.bind_some]
  obtain ⟨P, hP, hP0, hP1⟩ : ∃ P : Int, wrap64 (1 + wrap64 (Int.tmod (IntKind.u64.wrap p) 1099511627776)) = P ∧ 1 ≤ P ∧ P ≤ 1099511627776 := by
    refine ⟨_, rfl, ?_⟩
    have hu : 0 ≤ IntKind.u64.wrap p := by rw [show IntKind.u64.wrap p = p % 18446744073709551616 from rfl]; omega
    have h1 := Int.tmod_nonneg 1099511627776 hu
    have h2 := Int.tmod_lt_of_pos (IntKind.u64.wrap p) (show (0 : Int) < 1099511627776 by omega)
    rw [w64_in (x := Int.tmod _ _) (by omega) (by omega), w64_in (by omega) (by omega)]
    omega
  rw [hP]
  obtain ⟨B, hB, hf⟩ : ∃ B : Nat, (if frac u.toNat = true then u.toNat else 4602678819172646912) = B ∧ frac B = true := by
    refine ⟨_, rfl, ?_⟩
    split
    · assumption
    · exact half_frac
  rw [hB]
  obtain ⟨m0, i0, hfar⟩ := far_val P hP0 hP1
  have hD := dist_in m0 i0 B
  have hc := collar_yes P B hP0 hP1 hf _ (hfar B hf) hD
  have hr : rd_T86 [(⟨P, 1, 9223372036854775807, B⟩ : S86)] 0 = ⟨P, 1, 9223372036854775807, B⟩ := rfl
  simp only []
  rw [if_pos (by simp), to_f, Option.bind_some, hr]
  simp only []
  rw [look_f P q B _ _ hq1 hc, hc]
  generalize mx (P - dist m0 i0 B) 1 = a
  generalize mn (P + dist m0 i0 B) 1099511627776 = b
  by_cases h1 : q < 1
  · simp [h1, told5, stopgatelaw05_RulesPrices.j0]
  · by_cases h2 : a ≤ q
    · by_cases h3 : q ≤ b
      · simp [h1, h2, h3, told5, stopgatelaw05_RulesPrices.j0]
      · simp [h1, h2, h3, told5, stopgatelaw05_RulesPrices.j0]
    · simp [h1, h2, told5, stopgatelaw05_RulesPrices.j0]
end Go.Proofs.Ytgikjgekdeaneaa.Pure
