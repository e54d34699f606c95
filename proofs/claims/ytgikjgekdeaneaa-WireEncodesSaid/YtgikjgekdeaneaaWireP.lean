/- Wire, the plain part: numbers in bytes, what is taken. -/
import Derived.Test.YtgikjgekdeaneaaCh
namespace Go.Proofs.Ytgikjgekdeaneaa.Wire
open Go.RowKit Go.Proofs.YtgikjgekdeaneaaW.PrintWords Go.Proofs.YtgikjgekdeaneaaW.PrintLast Go.Proofs.YtgikjgekdeaneaaW.PrintMore Go.Proofs.Ytgikjgekdeaneaa.Own
set_option linter.unusedVariables false
/-- Bytes. -/
def Bytes (l : List Int) : Prop := ∀ x ∈ l, 0 ≤ x ∧ x < 256
/-- The number that bytes say. -/
def val (l : List Int) : Int := l.foldl (fun n c => n * 256 + c) 0
theorem val_snoc (l : List Int) (c : Int) : val (l ++ [c]) = val l * 256 + c := by simp [val]
theorem val_nil : val [] = 0 := rfl
theorem Bytes.take {l : List Int} (h : Bytes l) (k : Nat) : Bytes (l.take k) := fun x hx => h x (List.mem_of_mem_take hx)
theorem Bytes.drop {l : List Int} (h : Bytes l) (k : Nat) : Bytes (l.drop k) := fun x hx => h x (List.mem_of_mem_drop hx)
theorem Bytes.at_ {l : List Int} (h : Bytes l) (k : Nat) (hk : k < l.length) : 0 ≤ rd l (k : Int) ∧ rd l (k : Int) < 256 := by
  have : rd l (k : Int) = l[k] := by simp [rd, hk]
  rw [this]
  exact h _ (List.getElem_mem hk)
theorem take_snoc (l : List Int) (k : Nat) (h : k < l.length) : l.take (k + 1) = l.take k ++ [rd l (k : Int)] := by
  rw [List.take_succ_eq_append_getElem h]
  simp [rd, h]
theorem fold_val (l : List Int) : ∀ a : Int, l.foldl (fun n c => n * 256 + c) a = a * 256 ^ l.length + val l := by
  induction l with
  | nil => intro a; simp [val]
  | cons c l ih =>
    intro a
    show l.foldl (fun n c => n * 256 + c) (a * 256 + c) = _
    have h1 := ih (a * 256 + c)
    have h2 := ih (0 * 256 + c)
    rw [h1, show val (c :: l) = l.foldl (fun n c => n * 256 + c) (0 * 256 + c) from rfl, h2, List.length_cons, Int.pow_succ, Int.add_mul, Int.zero_mul, Int.zero_add, Int.mul_assoc, Int.mul_comm 256 (256 ^ l.length)]
    omega
theorem val_cons (c : Int) (l : List Int) : val (c :: l) = c * 256 ^ l.length + val l := by
  rw [show val (c :: l) = l.foldl (fun n c => n * 256 + c) (0 * 256 + c) from rfl, fold_val, Int.zero_mul, Int.zero_add]
theorem val_lo (l : List Int) (h : Bytes l) : 0 ≤ val l ∧ val l < 256 ^ l.length := by
  induction l with
  | nil => simp [val]
  | cons c l ih =>
    have h1 := ih (fun x hx => h x (by simp [hx]))
    have h2 := h c (by simp)
    rw [val_cons, List.length_cons, Int.pow_succ]
    obtain ⟨p, hp⟩ : ∃ p : Int, p = 256 ^ l.length := ⟨_, rfl⟩
    rw [← hp] at h1 ⊢
    have h3 : 0 ≤ c * p := Int.mul_nonneg h2.1 (by omega)
    have h4 : c * p ≤ 255 * p := Int.mul_le_mul_of_nonneg_right (by omega) (by omega)
    omega
/-- A number of so many bytes, and what is left; nothing: it was bad. -/
def take (size : Nat) : Option (List Int) → Int × Option (List Int)
  | none => (0, none)
  | some l => if l.length < size ∨ (size = 8 ∧ 128 ≤ rd l 0) then (0, none) else (val (l.take size), some (l.drop size))
theorem or_byte (n c : Int) (h0 : 0 ≤ n) (h1 : n < 72057594037927936) (c0 : 0 ≤ c) (c1 : c < 256) : Go.bits .or .i64 (wrap64 (n * 256)) c = wrap64 (n * 256 + c) := by
  obtain ⟨a, rfl⟩ := Int.eq_ofNat_of_zero_le h0
  obtain ⟨b, rfl⟩ := Int.eq_ofNat_of_zero_le c0
  have e1 : BitVec.ofInt 64 (wrap64 ((a : Int) * 256)) = BitVec.ofNat 64 (a * 256) := by
    rw [← BitVec.ofInt_natCast]
    apply BitVec.eq_of_toInt_eq
    rw [BitVec.toInt_ofInt, BitVec.toInt_ofInt]
    unfold wrap64
    simp only [Int.bmod, Nat.reducePow, Int.natCast_mul]
    omega
  have e2 : (a * 256 ||| b) = a * 256 + b := by
    have := Nat.two_pow_add_eq_or_of_lt (show b < 2 ^ 8 by omega) a
    rw [Nat.mul_comm a 256]
    exact this.symm
  show IntKind.i64.wrap (((BitVec.ofInt 64 (wrap64 ((a : Int) * 256))) ||| (BitVec.ofInt 64 (b : Int))).toNat) = _
  have h5 : a * 256 % 2 ^ 64 = a * 256 := Nat.mod_eq_of_lt (by omega)
  have h6 : b % 2 ^ 64 = b := Nat.mod_eq_of_lt (by omega)
  have h7 : ((BitVec.ofNat 64 (a * 256)) ||| (BitVec.ofNat 64 b)).toNat = a * 256 + b := by
    rw [BitVec.toNat_or, BitVec.toNat_ofNat, BitVec.toNat_ofNat, h5, h6, e2]
  rw [e1, BitVec.ofInt_natCast, h7, IntKind.wrap_i64]
  unfold wrap64
  omega
end Go.Proofs.Ytgikjgekdeaneaa.Wire
