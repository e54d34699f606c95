/- Wire: what Fix makes may be. -/
import Derived.Test.YtgikjgekdeaneaaQWirez
namespace Go.Proofs.Ytgikjgekdeaneaa.Wire
open Go.RowKit Go.Proofs.Ytgikjgekdeaneaa.QWire Go.Proofs.YtgikjgekdeaneaaW.PrintWords Go.Proofs.YtgikjgekdeaneaaW.PrintLast Go.Proofs.YtgikjgekdeaneaaW.PrintMore Go.Proofs.Ytgikjgekdeaneaa.Own
set_option linter.unusedVariables false
set_option linter.unusedSimpArgs false
theorem rbare_f (m : Msg) (j : Nat) : stopgateref06_Bare.f (j + 1) m.k m.a m.s m.b m.p m.q m.n m.t m.i m.y m.d m.m = some ((bareM m).k, (bareM m).a, (bareM m).s, (bareM m).b, (bareM m).p, (bareM m).q, (bareM m).n, (bareM m).t, (bareM m).i, (bareM m).y, (bareM m).d, (bareM m).m) := by
  unfold stopgateref06_Bare.f bareM
  by_cases h0 : m.k = 0
  · rw [if_pos h0, if_pos h0]
  · rw [if_neg h0, if_neg h0]
    by_cases h1 : m.k = 1
    · rw [if_pos h1, if_pos (Or.inl h1)]
      simp only [stopgateref06_Bare.j0]
      rw [if_pos (beq_iff_eq.mpr h1)]
    · rw [if_neg h1]
      simp only [stopgateref06_Bare.j0]
      by_cases h3 : m.k = 3
      · rw [if_pos (Or.inr h3), if_pos (beq_iff_eq.mpr h3)]
      · rw [if_neg (show ¬ (m.k = 1 ∨ m.k = 3) by omega), if_neg (show ¬ (m.k == 3) = true by simpa using h3)]
        by_cases h2 : m.k = 2
        · rw [if_pos h2, if_pos h2]
        · rw [if_neg h2, if_neg h2]
          by_cases h6 : m.k = 6
          · rw [if_pos h6, if_pos h6]
          · rw [if_neg h6, if_neg h6]
/-- An int64. -/
def I64 (n : Int) : Prop := -9223372036854775808 ≤ n ∧ n < 9223372036854775808
def bigV (n : Int) : Int := if n < 0 then -(n + 1) else n
theorem big_f (n : Int) (h : I64 n) : stopgateref06_big.f n = some (bigV n) := by
  unfold stopgateref06_big.f bigV I64 at *
  by_cases h0 : n < 0
  · rw [if_pos h0, if_pos h0, i64_in (n + 1) (by omega) (by omega), i64_in _ (by omega) (by omega)]
  · rw [if_neg h0, if_neg h0]
theorem bigV_in (n : Int) (h : I64 n) : 0 ≤ bigV n ∧ bigV n < 9223372036854775808 := by
  unfold bigV I64 at *
  split <;> omega
def rm (x n : Int) : Int := wrap64 (Int.tmod (IntKind.u64.wrap x) n)
theorem rm_in (x n : Int) (h0 : 0 < n) (h1 : n ≤ 4294967296) : 0 ≤ rm x n ∧ rm x n < n := by
  have hu : 0 ≤ IntKind.u64.wrap x := by rw [show IntKind.u64.wrap x = x % 18446744073709551616 from rfl]; omega
  have h2 := Int.tmod_nonneg n hu
  have h3 := Int.tmod_lt_of_pos (IntKind.u64.wrap x) h0
  unfold rm
  rw [i64_in _ (by omega) (by omega)]
  exact ⟨h2, h3⟩
/-- What Fix works on. -/
def raw (m : Msg) : Msg := ⟨rm m.k 7, rm m.a 65536, rm m.s 65536, m.b, bigV m.p, bigV m.q, bigV m.n, bigV m.t, rm m.i 4294967296, bigV m.y, rm m.d 65536, bigV m.m⟩
def fixM (m : Msg) : Msg := bareM (raw m)
/-- All its numbers are int64. -/
def M64 (m : Msg) : Prop := I64 m.p ∧ I64 m.q ∧ I64 m.n ∧ I64 m.t ∧ I64 m.y ∧ I64 m.m
theorem right_bare (x : Msg) (hk : 0 ≤ x.k ∧ x.k < 7) (ha : 0 ≤ x.a ∧ x.a < 65536) (hs : 0 ≤ x.s ∧ x.s < 65536) (hd : 0 ≤ x.d ∧ x.d < 65536) (hi : 0 ≤ x.i ∧ x.i < 4294967296) (hp : 0 ≤ x.p ∧ x.p < 9223372036854775808) (hq : 0 ≤ x.q ∧ x.q < 9223372036854775808) (hn : 0 ≤ x.n ∧ x.n < 9223372036854775808) (ht : 0 ≤ x.t ∧ x.t < 9223372036854775808) (hy : 0 ≤ x.y ∧ x.y < 9223372036854775808) (hm : 0 ≤ x.m ∧ x.m < 9223372036854775808) : Right (bareM x) ∧ Fit (bareM x) := by
  obtain ⟨k, a, s, b, p, q, n, t, i, y, d, m⟩ := x
  simp only at *
  have h7 : k = 0 ∨ k = 1 ∨ k = 2 ∨ k = 3 ∨ k = 4 ∨ k = 5 ∨ k = 6 := by omega
  have Z : (0 : Int) ≤ 0 := Int.le_refl _
  have Z6 : (0 : Int) ≤ 65535 := by decide
  have Z4 : (0 : Int) ≤ 4294967295 := by decide
  have Z9 : (0 : Int) < 9223372036854775808 := by decide
  have a6 : a ≤ 65535 := by omega
  have s6 : s ≤ 65535 := by omega
  have d6 : d ≤ 65535 := by omega
  have i6 : i ≤ 4294967295 := by omega
  rcases h7 with rfl | rfl | rfl | rfl | rfl | rfl | rfl
  · exact ⟨⟨⟨(by decide : (0 : Int) ≤ 0), (by decide : (0 : Int) ≤ 6)⟩, rfl, ⟨hp.1, hq.1, hn.1, ht.1, Z, Z⟩, ⟨ha.1, hs.1, Z, Z⟩, ⟨a6, s6, Z6⟩, Z4⟩, hp.2, hq.2, hn.2, ht.2, Z9, Z9⟩
  · exact ⟨⟨⟨(by decide : (0 : Int) ≤ 1), (by decide : (1 : Int) ≤ 6)⟩, rfl, ⟨Z, Z, Z, Z, Z, Z⟩, ⟨Z, Z, Z, hi.1⟩, ⟨Z6, Z6, Z6⟩, i6⟩, Z9, Z9, Z9, Z9, Z9, Z9⟩
  · exact ⟨⟨⟨(by decide : (0 : Int) ≤ 2), (by decide : (2 : Int) ≤ 6)⟩, rfl, ⟨Z, Z, Z, Z, hy.1, Z⟩, ⟨Z, Z, Z, hi.1⟩, ⟨Z6, Z6, Z6⟩, i6⟩, Z9, Z9, Z9, Z9, hy.2, Z9⟩
  · exact ⟨⟨⟨(by decide : (0 : Int) ≤ 3), (by decide : (3 : Int) ≤ 6)⟩, rfl, ⟨Z, Z, Z, Z, Z, Z⟩, ⟨Z, Z, Z, hi.1⟩, ⟨Z6, Z6, Z6⟩, i6⟩, Z9, Z9, Z9, Z9, Z9, Z9⟩
  · exact ⟨⟨⟨(by decide : (0 : Int) ≤ 4), (by decide : (4 : Int) ≤ 6)⟩, rfl, ⟨Z, Z, Z, Z, Z, Z⟩, ⟨Z, Z, Z, Z⟩, ⟨Z6, Z6, Z6⟩, Z4⟩, Z9, Z9, Z9, Z9, Z9, Z9⟩
  · exact ⟨⟨⟨(by decide : (0 : Int) ≤ 5), (by decide : (5 : Int) ≤ 6)⟩, rfl, ⟨Z, Z, Z, Z, Z, Z⟩, ⟨Z, Z, Z, Z⟩, ⟨Z6, Z6, Z6⟩, Z4⟩, Z9, Z9, Z9, Z9, Z9, Z9⟩
  · exact ⟨⟨⟨(by decide : (0 : Int) ≤ 6), (by decide : (6 : Int) ≤ 6)⟩, rfl, ⟨Z, Z, Z, Z, Z, hm.1⟩, ⟨Z, Z, hd.1, Z⟩, ⟨Z6, Z6, d6⟩, Z4⟩, Z9, Z9, Z9, Z9, Z9, hm.2⟩
theorem fix_right (m : Msg) (h : M64 m) : Right (fixM m) ∧ Fit (fixM m) :=
  right_bare (raw m) (rm_in _ _ (by decide) (by decide)) (rm_in _ _ (by decide) (by decide)) (rm_in _ _ (by decide) (by decide)) (rm_in _ _ (by decide) (by decide)) (rm_in _ _ (by decide) (by decide)) (bigV_in _ h.1) (bigV_in _ h.2.1) (bigV_in _ h.2.2.1) (bigV_in _ h.2.2.2.1) (bigV_in _ h.2.2.2.2.1) (bigV_in _ h.2.2.2.2.2)
theorem to_ (k a s : Int) (b : Bool) (p q n t i y d m : Int) (w : World) : Calls Try.prog 16 #[.agg #[.int .i64 k, .int .i64 a, .int .i64 s, .bool b, .int .i64 p, .int .i64 q, .int .i64 n, .int .i64 t, .int .i64 i, .int .i64 y, .int .i64 d, .int .i64 m]] w fun e w' => e = .returned (.agg #[.int .i64 k, .int .i64 a, .int .i64 s, .bool b, .int .i64 p, .int .i64 q, .int .i64 n, .int .i64 t, .int .i64 i, .int .i64 y, .int .i64 d, .int .i64 m]) ∧ Below w.heap.size w w' :=
  stopgatelaw06_To.calls k a s b p q n t i y d m k a s b p q n t i y d m w rfl
/-- The bytes of messages, one behind the other. -/
def flat (ms : List Msg) : List Int := ms.flatMap enc
theorem flat_snoc (ms : List Msg) (m : Msg) : flat (ms ++ [m]) = flat ms ++ enc m := by simp [flat]
theorem enc_len (m : Msg) : 1 ≤ (enc m).length ∧ (enc m).length ≤ 40 := by
  unfold enc body
  rw [List.length_append, be_len]
  split
  · simp [be_len]
  · split
    · simp [be_len]
    · split
      · simp [be_len]
      · split <;> simp [be_len]
theorem flat_len (ms : List Msg) : (flat ms).length ≤ 40 * ms.length := by
  induction ms with
  | nil => simp [flat]
  | cons m ms ih =>
    have h1 := enc_len m
    have h2 : flat (m :: ms) = enc m ++ flat ms := rfl
    rw [h2, List.length_append, List.length_cons]
    omega
theorem enc_bytes (m : Msg) : Bytes (enc m) := by
  have A : ∀ (l1 l2 : List Int), Bytes l1 → Bytes l2 → Bytes (l1 ++ l2) := fun l1 l2 h1 h2 x hx => (List.mem_append.1 hx).elim (h1 x) (h2 x)
  unfold enc body
  refine A _ _ (be_bytes _ _) ?_
  split
  · exact A _ _ (be_bytes _ _) (A _ _ (be_bytes _ _) (A _ _ (be_bytes _ _) (A _ _ (be_bytes _ _) (A _ _ (be_bytes _ _) (A _ _ (be_bytes _ _) (be_bytes _ _))))))
  · split
    · exact be_bytes _ _
    · split
      · exact A _ _ (be_bytes _ _) (be_bytes _ _)
      · split
        · exact A _ _ (be_bytes _ _) (be_bytes _ _)
        · intro x hx; cases hx
theorem flat_bytes (ms : List Msg) : Bytes (flat ms) := by
  intro x hx
  simp only [flat, List.mem_flatMap] at hx
  obtain ⟨m, _, h⟩ := hx
  exact enc_bytes m x h
theorem all_flat (ms : List Msg) (h : ∀ m ∈ ms, Right m ∧ Fit m) : allM (flat ms) = (ms, true) := by
  induction ms with
  | nil => exact allM_nil _ rfl
  | cons m ms ih =>
    have hm := h m (by simp)
    have h2 : flat (m :: ms) = enc m ++ flat ms := rfl
    have h3 := enc_len m
    rw [h2, allM_some _ m (flat ms) (by rw [List.length_append]; omega) (dec_enc m _ hm.1 hm.2), ih (fun x hx => h x (by simp [hx]))]
end Go.Proofs.Ytgikjgekdeaneaa.Wire
