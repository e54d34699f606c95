/- Wire: the reference's numbers in bytes. -/
import Derived.Test.YtgikjgekdeaneaaWireX
import Derived.Test.YtgikjgekdeaneaaQWirey
namespace Go.Proofs.Ytgikjgekdeaneaa.Wire
open Go.RowKit Go.Proofs.Ytgikjgekdeaneaa.QWire Go.Proofs.YtgikjgekdeaneaaW.PrintWords Go.Proofs.YtgikjgekdeaneaaW.PrintLast Go.Proofs.YtgikjgekdeaneaaW.PrintMore Go.Proofs.Ytgikjgekdeaneaa.Own
set_option linter.unusedVariables false
set_option linter.unusedSimpArgs false
theorem div_pow (n : Int) (h0 : 0 ≤ n) (j : Nat) : n / 256 ^ j / 256 = n / 256 ^ (j + 1) := by
  have hp := pow_pos_ j
  rw [Int.pow_succ, Int.ediv_ediv_of_nonneg (by omega)]
theorem div_in (n : Int) (h0 : 0 ≤ n) (h9 : n < 9223372036854775808) (j : Nat) : 0 ≤ n / 256 ^ j ∧ n / 256 ^ j < 9223372036854775808 := by
  have hp := pow_pos_ j
  have h1 := Int.ediv_nonneg h0 (by omega : (0 : Int) ≤ 256 ^ j)
  have h2 := Int.ediv_le_self (256 ^ j) h0
  omega
theorem num_l1 (n : Int) (h0 : 0 ≤ n) (h9 : n < 9223372036854775808) (i : Nat) (hi : i ≤ 8) : ∀ (d j k : Nat) (x5 : List Int), j + d = i → x5.length < 140737488355328 →
    stopgateref06_num.l1 (k + d + 1) n x5 (i : Int) (n / 256 ^ j) (j : Int) = stopgateref06_num.l0 k n (x5 ++ [n / 256 ^ i % 256]) (wrap64 ((i : Int) - 1)) := by
  intro d
  induction d with
  | zero =>
    intro j k x5 hj hl
    obtain rfl : j = i := by omega
    simp only [stopgateref06_num.l1]
    rw [if_neg (by omega), if_pos hl]
    have h1 := div_in n h0 h9 j
    rw [Int.tmod_eq_emod_of_nonneg h1.1, Int.emod_emod]
  | succ d ih =>
    intro j k x5 hj hl
    have hih := ih (j + 1) k x5 (by omega) hl
    rw [show k + (d + 1) + 1 = (k + d + 1) + 1 by omega]
    obtain ⟨f, hf⟩ : ∃ f, f = k + d + 1 := ⟨_, rfl⟩
    rw [← hf] at hih ⊢
    simp only [stopgateref06_num.l1]
    have h1 := div_in n h0 h9 j
    have h2 := div_in n h0 h9 (j + 1)
    rw [if_pos (by omega), Int.tdiv_eq_ediv_of_nonneg h1.1, div_pow n h0 j, i64_in _ (by omega) (by omega), i64_in ((j : Int) + 1) (by omega) (by omega), show (j : Int) + 1 = ((j + 1 : Nat) : Int) by omega]
    exact hih
/-- Rounds enough. -/
def rounds : Nat → Nat
  | 0 => 1
  | s + 1 => rounds s + s + 2
theorem num_l0 (n : Int) (h0 : 0 ≤ n) (h9 : n < 9223372036854775808) : ∀ (s : Nat) (x5 : List Int), s ≤ 8 → x5.length + s < 140737488355328 →
    stopgateref06_num.l0 (rounds s) n x5 ((s : Int) - 1) = some (x5 ++ be s n) := by
  intro s
  induction s with
  | zero =>
    intro x5 _ _
    simp only [rounds, stopgateref06_num.l0]
    rw [if_neg (by omega)]
    simp [be]
  | succ s ih =>
    intro x5 h8 hl
    rw [show rounds (s + 1) = (rounds s + s + 1) + 1 from rfl, show ((s + 1 : Nat) : Int) - 1 = (s : Int) by omega]
    simp only [stopgateref06_num.l0]
    rw [if_pos (by omega)]
    have h1 := num_l1 n h0 h9 s (by omega) s 0 (rounds s) x5 (by omega) (by omega)
    rw [Int.pow_zero, Int.ediv_one] at h1
    rw [show ((0 : Nat) : Int) = 0 from rfl] at h1
    rw [h1, i64_in _ (by omega) (by omega), ih _ (by omega) (by simp; omega)]
    simp [be]
theorem num_ (n : Int) (s : Nat) (h0 : 0 ≤ n) (h9 : n < 9223372036854775808) (hs : s ≤ 8) (w : World) :
  Calls Try.prog 67 #[.int .i64 n, .int .i64 (s : Int)] w fun e w' => ∃ v0_ : Value, e = .returned (v0_) ∧ Kd.R (Kd.int .u8) 5 w' w.heap.size (fun _ => True) v0_ (be s n) ∧ Below w.heap.size w w' := by
  refine stopgateref06_num.calls (rounds s) n (s : Int) (be s n) w ?_
  unfold stopgateref06_num.f
  rw [i64_in _ (by omega) (by omega), num_l0 n h0 h9 s [] hs (by simp; omega)]
  rfl
theorem num2 (n : Int) (h0 : 0 ≤ n) (h9 : n < 9223372036854775808) (w : World) : Calls Try.prog 67 #[.int .i64 n, .int .i64 2] w fun e w' => ∃ v0_ : Value, e = .returned (v0_) ∧ Kd.R (Kd.int .u8) 5 w' w.heap.size (fun _ => True) v0_ (be 2 n) ∧ Below w.heap.size w w' := num_ n 2 h0 h9 (by decide) w
theorem num4 (n : Int) (h0 : 0 ≤ n) (h9 : n < 9223372036854775808) (w : World) : Calls Try.prog 67 #[.int .i64 n, .int .i64 4] w fun e w' => ∃ v0_ : Value, e = .returned (v0_) ∧ Kd.R (Kd.int .u8) 5 w' w.heap.size (fun _ => True) v0_ (be 4 n) ∧ Below w.heap.size w w' := num_ n 4 h0 h9 (by decide) w
theorem num8 (n : Int) (h0 : 0 ≤ n) (h9 : n < 9223372036854775808) (w : World) : Calls Try.prog 67 #[.int .i64 n, .int .i64 8] w fun e w' => ∃ v0_ : Value, e = .returned (v0_) ∧ Kd.R (Kd.int .u8) 5 w' w.heap.size (fun _ => True) v0_ (be 8 n) ∧ Below w.heap.size w w' := num_ n 8 h0 h9 (by decide) w
end Go.Proofs.Ytgikjgekdeaneaa.Wire
