/- Wire, the plain part: what Encode lays. -/
import Derived.Test.YtgikjgekdeaneaaWireQ
namespace Go.Proofs.Ytgikjgekdeaneaa.Wire
open Go.RowKit Go.Proofs.Ytgikjgekdeaneaa.QWire Go.Proofs.YtgikjgekdeaneaaW.PrintWords Go.Proofs.YtgikjgekdeaneaaW.PrintLast Go.Proofs.YtgikjgekdeaneaaW.PrintMore Go.Proofs.Ytgikjgekdeaneaa.Own
set_option linter.unusedVariables false
set_option linter.unusedSimpArgs false
/-- A message with its kind's fields alone. -/
def bareM (m : Msg) : Msg :=
  if m.k = 0 then ⟨m.k, m.a, m.s, m.b, m.p, m.q, m.n, m.t, 0, 0, 0, 0⟩
  else if m.k = 1 ∨ m.k = 3 then ⟨m.k, 0, 0, false, 0, 0, 0, 0, m.i, 0, 0, 0⟩
  else if m.k = 2 then ⟨m.k, 0, 0, false, 0, 0, 0, 0, m.i, m.y, 0, 0⟩
  else if m.k = 6 then ⟨m.k, 0, 0, false, 0, 0, 0, 0, 0, 0, m.d, m.m⟩
  else ⟨m.k, 0, 0, false, 0, 0, 0, 0, 0, 0, 0, 0⟩
/-- May it be? -/
def Right (m : Msg) : Prop := (0 ≤ m.k ∧ m.k ≤ 6) ∧ bareM m = m ∧ (0 ≤ m.p ∧ 0 ≤ m.q ∧ 0 ≤ m.n ∧ 0 ≤ m.t ∧ 0 ≤ m.y ∧ 0 ≤ m.m) ∧ (0 ≤ m.a ∧ 0 ≤ m.s ∧ 0 ≤ m.d ∧ 0 ≤ m.i) ∧ (m.a ≤ 65535 ∧ m.s ≤ 65535 ∧ m.d ≤ 65535) ∧ m.i ≤ 4294967295
/-- Its bytes behind the kind's. -/
def body (m : Msg) : List Int :=
  if m.k = 0 then be 2 m.a ++ (be 2 m.s ++ (be 1 (if m.b then 1 else 0) ++ (be 8 m.p ++ (be 8 m.q ++ (be 8 m.n ++ be 8 m.t)))))
  else if m.k = 1 ∨ m.k = 3 then be 4 m.i
  else if m.k = 2 then be 4 m.i ++ be 8 m.y
  else if m.k = 6 then be 2 m.d ++ be 8 m.m
  else []
def enc (m : Msg) : List Int := be 1 m.k ++ body m
theorem pow8 (s : Nat) : (2 : Int) ^ (8 * s) = 256 ^ s := by
  rw [Int.pow_mul]; rfl
theorem shr_byte (n : Int) (s : Nat) (hs : s ≤ 7) : shr .i64 n (wrap64 (8 * (s : Int))) = n / 256 ^ s := by
  have e : wrap64 (8 * (s : Int)) = ((8 * s : Nat) : Int) := by rw [i64_in _ (by omega) (by omega)]; simp
  unfold shr
  rw [e, Int.toNat_natCast, Nat.min_eq_left (show 8 * s ≤ IntKind.i64.bits by show 8 * s ≤ 64; omega), pow8]
theorem put_l (n : Int) (s : Nat) : ∀ (k : Nat) (x0 : List Int), s < k → s ≤ 8 → x0.length + s < 140737488355328 → wire_put.l0 k x0 n ((s : Int) - 1) = some (x0 ++ be s n) := by
  induction s with
  | zero =>
    intro k x0 hk _ _
    obtain ⟨k, rfl⟩ : ∃ q, k = q + 1 := ⟨k - 1, by omega⟩
    simp only [wire_put.l0]
    rw [if_neg (by omega)]
    simp [be]
  | succ s ih =>
    intro k x0 hk h8 hl
    obtain ⟨k, rfl⟩ : ∃ q, k = q + 1 := ⟨k - 1, by omega⟩
    have e1 : ((s + 1 : Nat) : Int) - 1 = (s : Int) := by omega
    rw [e1]
    simp only [wire_put.l0]
    have e2 : wrap64 (8 * (s : Int)) = 8 * (s : Int) := i64_in _ (by omega) (by omega)
    have e3 : wrap64 ((s : Int) - 1) = (s : Int) - 1 := i64_in _ (by omega) (by omega)
    rw [if_pos (by omega), shr_byte n s (by omega), e2, if_pos (by omega), if_pos (by omega), e3, ih k _ (by omega) (by omega) (by simp; omega)]
    simp [be]
theorem put_f (n : Int) (s k : Nat) (x0 : List Int) (hk : s < k) (h8 : s ≤ 8) (hl : x0.length ≤ 1000) : wire_put.f k x0 n (s : Int) = some (x0 ++ be s n) := by
  unfold wire_put.f
  rw [i64_in _ (by omega) (by omega)]
  exact put_l n s k x0 hk h8 (by omega)
theorem flag_f (b : Bool) : wire_flag.f b = some (if b then 1 else 0) := by
  cases b <;> rfl
theorem order_f (m : Msg) (x0 : List Int) (hl : x0.length ≤ 100) : wire_putOrder.f 20 x0 m.a m.s m.b m.p m.q m.n m.t = some (x0 ++ (be 2 m.a ++ (be 2 m.s ++ (be 1 (if m.b then 1 else 0) ++ (be 8 m.p ++ (be 8 m.q ++ (be 8 m.n ++ be 8 m.t))))))) := by
  have L : ∀ s n, (be s n).length = s := be_len
  unfold wire_putOrder.f
  have p1 := put_f m.a 2 20 x0 (by decide) (by decide) (by omega)
  have p2 := put_f m.s 2 20 (x0 ++ be 2 m.a) (by decide) (by decide) (by simp [L]; omega)
  have p3 := put_f (if m.b then 1 else 0) 1 20 (x0 ++ be 2 m.a ++ be 2 m.s) (by decide) (by decide) (by simp [L]; omega)
  simp only [Int.cast_ofNat_Int, Int.natCast_one] at p1 p2 p3
  rw [p1]; simp only [Option.bind_some]
  rw [p2]; simp only [Option.bind_some]
  rw [flag_f]; simp only [Option.bind_some]
  rw [p3]; simp only [Option.bind_some]
  have q1 := put_f m.p 8 19 (x0 ++ (be 2 m.a ++ (be 2 m.s ++ be 1 (if m.b then 1 else 0)))) (by decide) (by decide) (by simp [L]; omega)
  have q2 := put_f m.q 8 18 (x0 ++ (be 2 m.a ++ (be 2 m.s ++ (be 1 (if m.b then 1 else 0) ++ be 8 m.p)))) (by decide) (by decide) (by simp [L]; omega)
  have q3 := put_f m.n 8 17 (x0 ++ (be 2 m.a ++ (be 2 m.s ++ (be 1 (if m.b then 1 else 0) ++ (be 8 m.p ++ be 8 m.q))))) (by decide) (by decide) (by simp [L]; omega)
  have q4 := put_f m.t 8 16 (x0 ++ (be 2 m.a ++ (be 2 m.s ++ (be 1 (if m.b then 1 else 0) ++ (be 8 m.p ++ (be 8 m.q ++ be 8 m.n)))))) (by decide) (by decide) (by simp [L]; omega)
  simp only [Int.cast_ofNat_Int] at q1 q2 q3 q4
  have w1 : wrap64 1 = 1 := by decide +kernel
  have w2 : wrap64 2 = 2 := by decide +kernel
  have w3 : wrap64 3 = 3 := by decide +kernel
  have w4 : wrap64 4 = 4 := by decide +kernel
  simp only [wire_putOrder.l0, List.length_cons, List.length_nil]
  simp [rd, q1, q2, q3, q4, w1, w2, w3, w4]
theorem bare_f (m : Msg) (j : Nat) : wire_bare.f (j + 1) m.k m.a m.s m.b m.p m.q m.n m.t m.i m.y m.d m.m = some ((bareM m).k, (bareM m).a, (bareM m).s, (bareM m).b, (bareM m).p, (bareM m).q, (bareM m).n, (bareM m).t, (bareM m).i, (bareM m).y, (bareM m).d, (bareM m).m) := by
  unfold wire_bare.f bareM
  by_cases h0 : m.k = 0
  · rw [if_pos h0, if_pos h0]
  · rw [if_neg h0, if_neg h0]
    by_cases h1 : m.k = 1
    · rw [if_pos h1, if_pos (Or.inl h1)]
      simp only [wire_bare.j0]
      rw [if_pos (beq_iff_eq.mpr h1)]
    · rw [if_neg h1]
      simp only [wire_bare.j0]
      by_cases h3 : m.k = 3
      · rw [if_pos (Or.inr h3), if_pos (beq_iff_eq.mpr h3)]
      · rw [if_neg (show ¬ (m.k = 1 ∨ m.k = 3) by omega), if_neg (show ¬ (m.k == 3) = true by simpa using h3)]
        by_cases h2 : m.k = 2
        · rw [if_pos h2, if_pos h2]
        · rw [if_neg h2, if_neg h2]
          by_cases h6 : m.k = 6
          · rw [if_pos h6, if_pos h6]
          · rw [if_neg h6, if_neg h6]
theorem mn_lt (a b c : Int) : mn a b < c ↔ a < c ∨ b < c := by unfold mn; split <;> omega
theorem mn_ge (a b c : Int) : mn a b ≥ c ↔ a ≥ c ∧ b ≥ c := by unfold mn; split <;> omega
theorem mx_le (a b c : Int) : mx a b ≤ c ↔ a ≤ c ∧ b ≤ c := by unfold mx; split <;> omega
theorem msg_ext (a b : Msg) (h : a.k = b.k ∧ a.a = b.a ∧ a.s = b.s ∧ a.b = b.b ∧ a.p = b.p ∧ a.q = b.q ∧ a.n = b.n ∧ a.t = b.t ∧ a.i = b.i ∧ a.y = b.y ∧ a.d = b.d ∧ a.m = b.m) : a = b := by
  cases a; cases b
  simp only at h
  obtain ⟨rfl, rfl, rfl, rfl, rfl, rfl, rfl, rfl, rfl, rfl, rfl, rfl⟩ := h
  rfl
theorem right_f (m : Msg) (j : Nat) : (Right m → wire_Right.f (j + 1) m.k m.a m.s m.b m.p m.q m.n m.t m.i m.y m.d m.m = some true) ∧ (¬ Right m → wire_Right.f (j + 1) m.k m.a m.s m.b m.p m.q m.n m.t m.i m.y m.d m.m = some false) := by
  unfold wire_Right.f Right
  by_cases h0 : m.k < 0
  · rw [if_pos h0]; exact ⟨fun h => absurd h.1.1 (by omega), fun _ => rfl⟩
  rw [if_neg h0]
  by_cases h6 : m.k > 6
  · rw [if_pos h6]; exact ⟨fun h => absurd h.1.2 (by omega), fun _ => rfl⟩
  rw [if_neg h6, bare_f m j]
  simp only [Option.bind_some]
  by_cases hb : bareM m = m
  · rw [hb]
    simp only [BEq.rfl, Bool.not_true, Bool.or_self, Bool.false_eq_true, if_false]
    by_cases h1 : mn (mn (mn (mn (mn m.p m.q) m.n) m.t) m.y) m.m < 0
    · rw [if_pos h1]
      simp only [mn_lt] at h1
      exact ⟨fun h => by omega, fun _ => rfl⟩
    · rw [if_neg h1]
      simp only [mn_lt] at h1
      by_cases h2 : mn (mn (mn m.a m.s) m.d) m.i ≥ 0
      · rw [if_pos h2]
        simp only [mn_ge] at h2
        by_cases h3 : mx (mx m.a m.s) m.d ≤ 65535
        · rw [if_pos h3]
          simp only [mx_le] at h3
          by_cases h4 : m.i ≤ 4294967295
          · rw [decide_eq_true h4]
            exact ⟨fun _ => rfl, fun h => absurd ⟨by omega, trivial, by omega, by omega, by omega, h4⟩ h⟩
          · rw [decide_eq_false h4]
            exact ⟨fun h => absurd h.2.2.2.2.2 h4, fun _ => rfl⟩
        · rw [if_neg h3]
          simp only [mx_le] at h3
          exact ⟨fun h => by omega, fun _ => rfl⟩
      · rw [if_neg h2]
        simp only [mn_ge] at h2
        exact ⟨fun h => by omega, fun _ => rfl⟩
  · have hc : (!((bareM m).k == m.k) || ((!((bareM m).a == m.a) || (!((bareM m).s == m.s) || (!((bareM m).b == m.b) || (!((bareM m).p == m.p) || (!((bareM m).q == m.q) || (!((bareM m).n == m.n) || (!((bareM m).t == m.t)))))))) || (!((bareM m).i == m.i) || (!((bareM m).y == m.y) || (!((bareM m).d == m.d) || (!((bareM m).m == m.m))))))) = true := by
      cases hx : (!((bareM m).k == m.k) || ((!((bareM m).a == m.a) || (!((bareM m).s == m.s) || (!((bareM m).b == m.b) || (!((bareM m).p == m.p) || (!((bareM m).q == m.q) || (!((bareM m).n == m.n) || (!((bareM m).t == m.t)))))))) || (!((bareM m).i == m.i) || (!((bareM m).y == m.y) || (!((bareM m).d == m.d) || (!((bareM m).m == m.m))))))) with
      | true => rfl
      | false =>
        exfalso
        simp only [Bool.or_eq_false_iff, Bool.not_eq_false', beq_iff_eq] at hx
        exact hb (msg_ext _ _ ⟨hx.1, hx.2.1.1, hx.2.1.2.1, hx.2.1.2.2.1, hx.2.1.2.2.2.1, hx.2.1.2.2.2.2.1, hx.2.1.2.2.2.2.2.1, hx.2.1.2.2.2.2.2.2, hx.2.2.1, hx.2.2.2.1, hx.2.2.2.2.1, hx.2.2.2.2.2⟩)
    rw [if_pos hc]
    exact ⟨fun h => absurd h.2.1 hb, fun _ => rfl⟩
theorem be1 (k : Int) : be 1 k = [k % 256] := by simp [be]
theorem encode_yes (m : Msg) (h : Right m) : wire_Encode.f 20 m.k m.a m.s m.b m.p m.q m.n m.t m.i m.y m.d m.m = some (enc m) := by
  have L : ∀ s n, (be s n).length = s := be_len
  unfold wire_Encode.f enc body
  rw [(right_f m 19).1 h]
  simp only [Option.bind_some, if_true]
  rw [← be1]
  have hk := h.1
  by_cases h0 : m.k = 0
  · rw [if_pos h0, if_pos h0, order_f m _ (by simp [L])]
    rfl
  · rw [if_neg h0, if_neg h0]
    have P : ∀ (n : Int) (s k : Nat) (x0 : List Int), s < k → s ≤ 8 → x0.length ≤ 1000 → wire_put.f k x0 n (s : Int) = some (x0 ++ be s n) := put_f
    have p4 := P m.i 4 19 (be 1 m.k) (by decide) (by decide) (by simp [L])
    have p8 := P m.y 8 19 (be 1 m.k ++ be 4 m.i) (by decide) (by decide) (by simp [L])
    have p2 := P m.d 2 19 (be 1 m.k) (by decide) (by decide) (by simp [L])
    have p9 := P m.m 8 19 (be 1 m.k ++ be 2 m.d) (by decide) (by decide) (by simp [L])
    simp only [Int.cast_ofNat_Int] at p4 p8 p2 p9
    by_cases h1 : m.k = 1
    · rw [if_pos h1, if_pos (show m.k = 1 ∨ m.k = 3 from Or.inl h1)]
      simp only [wire_Encode.j0]
      rw [if_pos (beq_iff_eq.mpr h1), p4]; rfl
    · rw [if_neg h1]
      simp only [wire_Encode.j0]
      by_cases h3 : m.k = 3
      · rw [if_pos (show m.k = 1 ∨ m.k = 3 from Or.inr h3), if_pos (beq_iff_eq.mpr h3), p4]; rfl
      · rw [if_neg (show ¬ (m.k = 1 ∨ m.k = 3) by omega), if_neg (show ¬ (m.k == 3) = true by simpa using h3)]
        by_cases h2 : m.k = 2
        · rw [if_pos h2, if_pos h2, p4]; simp only [Option.bind_some]; rw [p8]; simp
        · rw [if_neg h2, if_neg h2]
          by_cases h6 : m.k = 6
          · rw [if_pos h6, if_pos h6, p2]; simp only [Option.bind_some]; rw [p9]; simp
          · rw [if_neg h6, if_neg h6]; simp
theorem encode_no (m : Msg) (h : ¬ Right m) : wire_Encode.f 20 m.k m.a m.s m.b m.p m.q m.n m.t m.i m.y m.d m.m = some [] := by
  unfold wire_Encode.f
  rw [(right_f m 19).2 h]
  rfl
end Go.Proofs.Ytgikjgekdeaneaa.Wire
