/- Printed by wip/gen/myprint.py, a program of this session, for this claim: functions of the program as Lean functions, each with a proof that the Go code comes to its answers. -/
import Derived.Test.YtgikjgekdeaneaaQWirey
import Derived.Test.YtgikjgekdeaneaaWireH
namespace Go.Proofs.Ytgikjgekdeaneaa.QWire
open Go.RowKit Go.Proofs.YtgikjgekdeaneaaW.PrintWords Go.Proofs.YtgikjgekdeaneaaW.PrintLast Go.Proofs.YtgikjgekdeaneaaW.PrintMore
attribute [local go_sem] max2_int min2_int max_two min_two max_three min_three max_four min_four   -- for this text's walks alone
set_option linter.unusedVariables false
set_option linter.unusedSimpArgs false

attribute [local go_sem] min_five min_six
/-! ### stopgateref06_Bare: function 65 -/
def stopgateref06_Bare.j0 : Nat → Int → Bool → Int → Int → Int → Bool → Int → Int → Int → Int → Int → Int → Int → Int → Int → Int → Int → Bool → Int → Int → Int → Int → Int → Int → Int → Int → Option (Int × Int × Int × Bool × Int × Int × Int × Int × Int × Int × Int × Int)
 | 0, _, _, _, _, _, _, _, _, _, _, _, _, _, _, _, _, _, _, _, _, _, _, _, _, _, _ => none
 | k + 1, x8, x14, x191000, x191001, x191002, x191003, x191004, x191005, x191006, x191007, x191008, x191009, x191010, x191011, x193000, x193001, x193002, x193003, x193004, x193005, x193006, x193007, x193008, x193009, x193010, x193011 => if x14 = true then (some (x193000, x193001, x193002, x193003, x193004, x193005, x193006, x193007, x191008, x193009, x193010, x193011)) else (if x8 = 2 then (some (x193000, x193001, x193002, x193003, x193004, x193005, x193006, x193007, x191008, x191009, x193010, x193011)) else (if x8 = 6 then (some (x193000, x193001, x193002, x193003, x193004, x193005, x193006, x193007, x193008, x193009, x191010, x191011)) else (some (x193000, x193001, x193002, x193003, x193004, x193005, x193006, x193007, x193008, x193009, x193010, x193011))))
def stopgateref06_Bare.f (k : Nat) (a0_0 : Int) (a0_1 : Int) (a0_2 : Int) (a0_3 : Bool) (a0_4 : Int) (a0_5 : Int) (a0_6 : Int) (a0_7 : Int) (a0_8 : Int) (a0_9 : Int) (a0_10 : Int) (a0_11 : Int) : Option (Int × Int × Int × Bool × Int × Int × Int × Int × Int × Int × Int × Int) := if a0_0 = 0 then (some (a0_0, a0_1, a0_2, a0_3, a0_4, a0_5, a0_6, a0_7, 0, 0, 0, 0)) else (if a0_0 = 1 then (stopgateref06_Bare.j0 k a0_0 (a0_0 == 1) a0_0 a0_1 a0_2 a0_3 a0_4 a0_5 a0_6 a0_7 a0_8 a0_9 a0_10 a0_11 a0_0 0 0 false 0 0 0 0 0 0 0 0) else (stopgateref06_Bare.j0 k a0_0 (a0_0 == 3) a0_0 a0_1 a0_2 a0_3 a0_4 a0_5 a0_6 a0_7 a0_8 a0_9 a0_10 a0_11 a0_0 0 0 false 0 0 0 0 0 0 0 0))
theorem stopgateref06_Bare.mono_l : ∀ k, (∀ y0 y1 y2 y3 y4 y5 y6 y7 y8 y9 y10 y11 y12 y13 y14 y15 y16 y17 y18 y19 y20 y21 y22 y23 y24 y25, LeO (stopgateref06_Bare.j0 k y0 y1 y2 y3 y4 y5 y6 y7 y8 y9 y10 y11 y12 y13 y14 y15 y16 y17 y18 y19 y20 y21 y22 y23 y24 y25) (stopgateref06_Bare.j0 (k + 1) y0 y1 y2 y3 y4 y5 y6 y7 y8 y9 y10 y11 y12 y13 y14 y15 y16 y17 y18 y19 y20 y21 y22 y23 y24 y25))
 | 0 => fun _ _ _ _ _ _ _ _ _ _ _ _ _ _ _ _ _ _ _ _ _ _ _ _ _ _ r h => by simp [stopgateref06_Bare.j0] at h
 | k + 1 => by
  have ih0 := stopgateref06_Bare.mono_l k
  ·intro y0 y1 y2 y3 y4 y5 y6 y7 y8 y9 y10 y11 y12 y13 y14 y15 y16 y17 y18 y19 y20 y21 y22 y23 y24 y25
   unfold stopgateref06_Bare.j0
   repeat' first
   | (with_reducible exact ih0 _ _ _ _ _ _ _ _ _ _ _ _ _ _ _ _ _ _ _ _ _ _ _ _ _ _)
   | (with_reducible exact LeO.refl _)
   | (with_reducible exact LeO.none _)
   | (with_reducible refine LeO.ite ?_ ?_)
   | (with_reducible refine LeO.bind ?_ (fun _ => ?_))
   | exact ih0 _ _ _ _ _ _ _ _ _ _ _ _ _ _ _ _ _ _ _ _ _ _ _ _ _ _
   | exact LeO.none _
   | refine LeO.ite ?_ ?_
   | refine LeO.bind ?_ (fun _ => ?_)
theorem stopgateref06_Bare.mono : ∀ a0 a1 a2 a3 a4 a5 a6 a7 a8 a9 a10 a11 k, LeO (stopgateref06_Bare.f k a0 a1 a2 a3 a4 a5 a6 a7 a8 a9 a10 a11) (stopgateref06_Bare.f (k + 1) a0 a1 a2 a3 a4 a5 a6 a7 a8 a9 a10 a11) := by
 intro a0 a1 a2 a3 a4 a5 a6 a7 a8 a9 a10 a11 k
 have ih0 := stopgateref06_Bare.mono_l k
 unfold stopgateref06_Bare.f
 repeat' first
   | (with_reducible exact ih0 _ _ _ _ _ _ _ _ _ _ _ _ _ _ _ _ _ _ _ _ _ _ _ _ _ _)
   | (with_reducible exact LeO.refl _)
   | (with_reducible exact LeO.none _)
   | (with_reducible refine LeO.ite ?_ ?_)
   | (with_reducible refine LeO.bind ?_ (fun _ => ?_))
   | exact ih0 _ _ _ _ _ _ _ _ _ _ _ _ _ _ _ _ _ _ _ _ _ _ _ _ _ _
   | exact LeO.none _
   | refine LeO.ite ?_ ?_
   | refine LeO.bind ?_ (fun _ => ?_)
set_option maxHeartbeats 8000000 in
set_option maxRecDepth 100000 in
theorem stopgateref06_Bare.calls (k : Nat) (a0_0 : Int) (a0_1 : Int) (a0_2 : Int) (a0_3 : Bool) (a0_4 : Int) (a0_5 : Int) (a0_6 : Int) (a0_7 : Int) (a0_8 : Int) (a0_9 : Int) (a0_10 : Int) (a0_11 : Int) (r1 : Int) (r2 : Int) (r3 : Int) (r4 : Bool) (r5 : Int) (r6 : Int) (r7 : Int) (r8 : Int) (r9 : Int) (r10 : Int) (r11 : Int) (r12 : Int) (w : World) (h : stopgateref06_Bare.f k a0_0 a0_1 a0_2 a0_3 a0_4 a0_5 a0_6 a0_7 a0_8 a0_9 a0_10 a0_11 = some (r1, r2, r3, r4, r5, r6, r7, r8, r9, r10, r11, r12)) :
  Calls Try.prog 65 #[.agg #[.int .i64 a0_0, .int .i64 a0_1, .int .i64 a0_2, .bool a0_3, .int .i64 a0_4, .int .i64 a0_5, .int .i64 a0_6, .int .i64 a0_7, .int .i64 a0_8, .int .i64 a0_9, .int .i64 a0_10, .int .i64 a0_11]] w fun e w' => e = .returned (.agg #[.int .i64 r1, .int .i64 r2, .int .i64 r3, .bool r4, .int .i64 r5, .int .i64 r6, .int .i64 r7, .int .i64 r8, .int .i64 r9, .int .i64 r10, .int .i64 r11, .int .i64 r12]) ∧ Below w.heap.size w w' := by
  have hv : some (r1, r2, r3, r4, r5, r6, r7, r8, r9, r10, r11, r12) = some (let m := Wire.bareM ⟨a0_0, a0_1, a0_2, a0_3, a0_4, a0_5, a0_6, a0_7, a0_8, a0_9, a0_10, a0_11⟩; (m.k, m.a, m.s, m.b, m.p, m.q, m.n, m.t, m.i, m.y, m.d, m.m)) := by
    rw [← h]
    unfold stopgateref06_Bare.f at h ⊢
    unfold Wire.bareM
    by_cases h0 : a0_0 = 0
    · rw [if_pos h0, if_pos h0]
    · rw [if_neg h0] at h
      rw [if_neg h0, if_neg h0]
      cases k with
      | zero => exfalso; split at h <;> simp [stopgateref06_Bare.j0] at h
      | succ k =>
        by_cases h1 : a0_0 = 1
        · rw [if_pos h1, if_pos (Or.inl h1)]
          simp only [stopgateref06_Bare.j0]
          rw [if_pos (beq_iff_eq.mpr h1)]
        · rw [if_neg h1]
          simp only [stopgateref06_Bare.j0]
          by_cases h3 : a0_0 = 3
          · rw [if_pos (Or.inr h3), if_pos (beq_iff_eq.mpr h3)]
          · rw [if_neg (show ¬ (a0_0 = 1 ∨ a0_0 = 3) by omega), if_neg (show ¬ (a0_0 == 3) = true by simpa using h3)]
            by_cases h2 : a0_0 = 2
            · rw [if_pos h2, if_pos h2]
            · rw [if_neg h2, if_neg h2]
              by_cases h6 : a0_0 = 6
              · rw [if_pos h6, if_pos h6]
              · rw [if_neg h6, if_neg h6]
  have hc := Wire.rbare_ ⟨a0_0, a0_1, a0_2, a0_3, a0_4, a0_5, a0_6, a0_7, a0_8, a0_9, a0_10, a0_11⟩ w
  simp only [Option.some.injEq, Prod.mk.injEq] at hv
  obtain ⟨rfl, rfl, rfl, rfl, rfl, rfl, rfl, rfl, rfl, rfl, rfl, rfl⟩ := hv
  exact hc

end Go.Proofs.Ytgikjgekdeaneaa.QWire
