/- Wire, the plain part: numbers as bytes and back, messages as bytes and back. -/
import Derived.Test.YtgikjgekdeaneaaWireB
import Derived.Test.YtgikjgekdeaneaaQWirex5
namespace Go.Proofs.Ytgikjgekdeaneaa.Wire
open Go.RowKit Go.Proofs.Ytgikjgekdeaneaa.QWire Go.Proofs.YtgikjgekdeaneaaW.PrintWords Go.Proofs.YtgikjgekdeaneaaW.PrintLast Go.Proofs.YtgikjgekdeaneaaW.PrintMore Go.Proofs.Ytgikjgekdeaneaa.Own
set_option linter.unusedVariables false
set_option linter.unusedSimpArgs false
/-- A number in so many bytes. -/
def be : Nat → Int → List Int
  | 0, _ => []
  | s + 1, n => (n / 256 ^ s) % 256 :: be s n
theorem be_len (s : Nat) (n : Int) : (be s n).length = s := by
  induction s with
  | zero => rfl
  | succ s ih => simp [be, ih]
theorem be_bytes (s : Nat) (n : Int) : Bytes (be s n) := by
  induction s with
  | zero => intro x hx; simp [be] at hx
  | succ s ih =>
    intro x hx
    simp only [be, List.mem_cons] at hx
    rcases hx with rfl | hx
    · omega
    · exact ih x hx
theorem pow_pos_ (s : Nat) : 0 < (256 : Int) ^ s := Int.pow_pos (by decide)
theorem val_be (s : Nat) (n : Int) : val (be s n) = n % 256 ^ s := by
  induction s with
  | zero => simp [be, val, Int.emod_one]
  | succ s ih =>
    rw [be, val_cons, be_len, ih, Int.pow_succ]
    have h := Int.emod_emod_of_dvd n (Int.dvd_mul_right (256 ^ s) 256)
    have hp := pow_pos_ s
    obtain ⟨p, e⟩ : ∃ p : Int, p = 256 ^ s := ⟨_, rfl⟩
    rw [← e] at hp ⊢
    rw [Int.emod_def n (p * 256), ← Int.ediv_ediv_of_nonneg (by omega : 0 ≤ p), Int.emod_def (n / p) 256, Int.emod_def n p]
    rw [Int.sub_mul, Int.mul_assoc p 256, Int.mul_comm (n / p) p, Int.mul_comm (256 * (n / p / 256)) p]
    omega
theorem be_add (s : Nat) : ∀ (n c : Int), be s (n + c * 256 ^ s) = be s n := by
  induction s with
  | zero => intro n c; rfl
  | succ s ih =>
    intro n c
    have hp := pow_pos_ s
    have e : c * 256 ^ (s + 1) = (c * 256) * 256 ^ s := by rw [Int.pow_succ, Int.mul_comm (256 ^ s) 256, Int.mul_assoc]
    rw [be, be, e, ih, Int.add_mul_ediv_right _ _ (by omega)]
    congr 1
    omega
theorem be_val (l : List Int) (h : Bytes l) : be l.length (val l) = l := by
  induction l with
  | nil => rfl
  | cons c l ih =>
    have hb : Bytes l := fun x hx => h x (by simp [hx])
    have hc := h c (by simp)
    have hv := val_lo l hb
    have hp := pow_pos_ l.length
    rw [List.length_cons, be, val_cons, Int.add_comm, be_add, ih hb, Int.add_mul_ediv_right _ _ (by omega), Int.ediv_eq_zero_of_lt hv.1 hv.2]
    congr 1
    omega
theorem take_be (s : Nat) (x : Int) (r : List Int) (h1 : 1 ≤ s) (h0 : 0 ≤ x) (hx : x < 256 ^ s) (h8 : s = 8 → x < 9223372036854775808) : take s (some (be s x ++ r)) = (x, some r) := by
  have hl := be_len s x
  have hlen : (be s x ++ r).length = s + r.length := by rw [List.length_append, hl]
  rw [take_on]
  · rw [List.take_left' hl, List.drop_left' hl, val_be, Int.emod_eq_of_lt h0 hx]
  · rintro (h | ⟨rfl, h⟩)
    · omega
    · have hr : rd (be 8 x ++ r) 0 = (x / 256 ^ 7) % 256 := rfl
      rw [hr, show (256 : Int) ^ 7 = 72057594037927936 by decide] at h
      have := h8 rfl
      omega
theorem take_some (s : Nat) (st : Option (List Int)) (x : Int) (r : List Int) (hb : ∀ l, st = some l → Bytes l) (hs : s ≤ 8) (h : take s st = (x, some r)) : st = some (be s x ++ r) ∧ 0 ≤ x ∧ x < 256 ^ s ∧ (s = 8 → x < 9223372036854775808) ∧ Bytes r := by
  obtain ⟨l, e1, e2, e3⟩ := take_len s st r (by rw [h])
  subst e1
  have hB := hb l rfl
  by_cases hc : l.length < s ∨ (s = 8 ∧ 128 ≤ rd l 0)
  · rw [take_off s l hc] at h
    cases h
  · rw [take_on s l hc] at h
    have hx : val (l.take s) = x := congrArg Prod.fst h
    have ht : (l.take s).length = s := by rw [List.length_take]; omega
    have hv := val_lo (l.take s) (hB.take s)
    have hbe := be_val (l.take s) (hB.take s)
    rw [ht, hx] at hbe
    rw [ht, hx] at hv
    refine ⟨by rw [hbe, e2, List.take_append_drop], hv.1, hv.2, fun e8 => ?_, by rw [e2]; exact hB.drop s⟩
    subst e8
    have hw := wrap_take l hB 8 (by omega) e3
    rw [hx] at hw
    have hn : ¬ wrap64 x < 0 := fun h => hc (.inr (hw.1.mp h))
    have := hw.2 (by omega)
    unfold wrap64 at this
    omega
end Go.Proofs.Ytgikjgekdeaneaa.Wire
