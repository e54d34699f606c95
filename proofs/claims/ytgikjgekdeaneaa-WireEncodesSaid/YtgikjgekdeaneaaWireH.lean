/- Wire: the reference's Bare by hand. -/
import Derived.Test.YtgikjgekdeaneaaWireX
namespace Go.Proofs.Ytgikjgekdeaneaa.Wire
open Go.RowKit Go.Proofs.Ytgikjgekdeaneaa.QWire Go.Proofs.YtgikjgekdeaneaaW.PrintWords Go.Proofs.YtgikjgekdeaneaaW.PrintLast Go.Proofs.YtgikjgekdeaneaaW.PrintMore Go.Proofs.Ytgikjgekdeaneaa.Own
set_option linter.unusedVariables false
set_option linter.unusedSimpArgs false
set_option maxHeartbeats 2000000 in
set_option maxRecDepth 100000 in
theorem rbare_o (k a s : Int) (b : Bool) (p q n t i y d m : Int) (w : World) (k0 : k ≠ 0) (k1 : k ≠ 1) (k3 : k ≠ 3) (k2 : k ≠ 2) (k6 : k ≠ 6) : Calls Try.prog 65 #[.agg #[.int .i64 k, .int .i64 a, .int .i64 s, .bool b, .int .i64 p, .int .i64 q, .int .i64 n, .int .i64 t, .int .i64 i, .int .i64 y, .int .i64 d, .int .i64 m]] w fun e w' => e = .returned (.agg #[.int .i64 k, .int .i64 0, .int .i64 0, .bool false, .int .i64 0, .int .i64 0, .int .i64 0, .int .i64 0, .int .i64 0, .int .i64 0, .int .i64 0, .int .i64 0]) ∧ Below w.heap.size w w' := by
  have b0 : (k == 0) = false := beq_eq_false_iff_ne.mpr k0
  have b1 : (k == 1) = false := beq_eq_false_iff_ne.mpr k1
  have b3 : (k == 3) = false := beq_eq_false_iff_ne.mpr k3
  have b2 : (k == 2) = false := beq_eq_false_iff_ne.mpr k2
  have b6 : (k == 6) = false := beq_eq_false_iff_ne.mpr k6
  clear k0 k1 k2 k3 k6
  go_enter Try.func65, Try.ntmps65
  go_wp2
  refine bodyPost_ret (results_cell_row rfl _ _ (w.heap.size + 1) 25 #[.int .i64 k, .int .i64 0, .int .i64 0, .bool false, .int .i64 0, .int .i64 0, .int .i64 0, .int .i64 0, .int .i64 0, .int .i64 0, .int .i64 0, .int .i64 0] (0, 0) _ rfl (by (with_reducible repeat (first | refine blk_drewN ?_ _ | refine blk_drew ?_)); exact blk_alloc (new_at _ _ _ (size_alloc _ _).symm) _) Try.underlying25 rfl (by kernel_rfl)) rfl ⟨rfl, by repeat (first | exact Below.refl _ _ | apply below_alloc | apply below_drew1 | apply pw_below_drewN)⟩
set_option maxHeartbeats 2000000 in
set_option maxRecDepth 100000 in
theorem rbare_0 (a s : Int) (b : Bool) (p q n t i y d m : Int) (w : World) : Calls Try.prog 65 #[.agg #[.int .i64 0, .int .i64 a, .int .i64 s, .bool b, .int .i64 p, .int .i64 q, .int .i64 n, .int .i64 t, .int .i64 i, .int .i64 y, .int .i64 d, .int .i64 m]] w fun e w' => e = .returned (.agg #[.int .i64 0, .int .i64 a, .int .i64 s, .bool b, .int .i64 p, .int .i64 q, .int .i64 n, .int .i64 t, .int .i64 0, .int .i64 0, .int .i64 0, .int .i64 0]) ∧ Below w.heap.size w w' := by
  go_enter Try.func65, Try.ntmps65
  go_wp2
  refine bodyPost_ret (results_cell_row rfl _ _ (w.heap.size + 1) 25 #[.int .i64 0, .int .i64 a, .int .i64 s, .bool b, .int .i64 p, .int .i64 q, .int .i64 n, .int .i64 t, .int .i64 0, .int .i64 0, .int .i64 0, .int .i64 0] (0, 0) _ rfl (by (with_reducible repeat (first | refine blk_drewN ?_ _ | refine blk_drew ?_)); exact blk_alloc (new_at _ _ _ (size_alloc _ _).symm) _) Try.underlying25 rfl (by kernel_rfl)) rfl ⟨rfl, by repeat (first | exact Below.refl _ _ | apply below_alloc | apply below_drew1 | apply pw_below_drewN)⟩
set_option maxHeartbeats 2000000 in
set_option maxRecDepth 100000 in
theorem rbare_1 (a s : Int) (b : Bool) (p q n t i y d m : Int) (w : World) : Calls Try.prog 65 #[.agg #[.int .i64 1, .int .i64 a, .int .i64 s, .bool b, .int .i64 p, .int .i64 q, .int .i64 n, .int .i64 t, .int .i64 i, .int .i64 y, .int .i64 d, .int .i64 m]] w fun e w' => e = .returned (.agg #[.int .i64 1, .int .i64 0, .int .i64 0, .bool false, .int .i64 0, .int .i64 0, .int .i64 0, .int .i64 0, .int .i64 i, .int .i64 0, .int .i64 0, .int .i64 0]) ∧ Below w.heap.size w w' := by
  go_enter Try.func65, Try.ntmps65
  go_wp2
  refine bodyPost_ret (results_cell_row rfl _ _ (w.heap.size + 1) 25 #[.int .i64 1, .int .i64 0, .int .i64 0, .bool false, .int .i64 0, .int .i64 0, .int .i64 0, .int .i64 0, .int .i64 i, .int .i64 0, .int .i64 0, .int .i64 0] (0, 0) _ rfl (by (with_reducible repeat (first | refine blk_drewN ?_ _ | refine blk_drew ?_)); exact blk_alloc (new_at _ _ _ (size_alloc _ _).symm) _) Try.underlying25 rfl (by kernel_rfl)) rfl ⟨rfl, by repeat (first | exact Below.refl _ _ | apply below_alloc | apply below_drew1 | apply pw_below_drewN)⟩
set_option maxHeartbeats 2000000 in
set_option maxRecDepth 100000 in
theorem rbare_3 (a s : Int) (b : Bool) (p q n t i y d m : Int) (w : World) : Calls Try.prog 65 #[.agg #[.int .i64 3, .int .i64 a, .int .i64 s, .bool b, .int .i64 p, .int .i64 q, .int .i64 n, .int .i64 t, .int .i64 i, .int .i64 y, .int .i64 d, .int .i64 m]] w fun e w' => e = .returned (.agg #[.int .i64 3, .int .i64 0, .int .i64 0, .bool false, .int .i64 0, .int .i64 0, .int .i64 0, .int .i64 0, .int .i64 i, .int .i64 0, .int .i64 0, .int .i64 0]) ∧ Below w.heap.size w w' := by
  go_enter Try.func65, Try.ntmps65
  go_wp2
  refine bodyPost_ret (results_cell_row rfl _ _ (w.heap.size + 1) 25 #[.int .i64 3, .int .i64 0, .int .i64 0, .bool false, .int .i64 0, .int .i64 0, .int .i64 0, .int .i64 0, .int .i64 i, .int .i64 0, .int .i64 0, .int .i64 0] (0, 0) _ rfl (by (with_reducible repeat (first | refine blk_drewN ?_ _ | refine blk_drew ?_)); exact blk_alloc (new_at _ _ _ (size_alloc _ _).symm) _) Try.underlying25 rfl (by kernel_rfl)) rfl ⟨rfl, by repeat (first | exact Below.refl _ _ | apply below_alloc | apply below_drew1 | apply pw_below_drewN)⟩
set_option maxHeartbeats 2000000 in
set_option maxRecDepth 100000 in
theorem rbare_2 (a s : Int) (b : Bool) (p q n t i y d m : Int) (w : World) : Calls Try.prog 65 #[.agg #[.int .i64 2, .int .i64 a, .int .i64 s, .bool b, .int .i64 p, .int .i64 q, .int .i64 n, .int .i64 t, .int .i64 i, .int .i64 y, .int .i64 d, .int .i64 m]] w fun e w' => e = .returned (.agg #[.int .i64 2, .int .i64 0, .int .i64 0, .bool false, .int .i64 0, .int .i64 0, .int .i64 0, .int .i64 0, .int .i64 i, .int .i64 y, .int .i64 0, .int .i64 0]) ∧ Below w.heap.size w w' := by
  go_enter Try.func65, Try.ntmps65
  go_wp2
  go_region
  all_goals go_wp2
  all_goals refine bodyPost_ret (results_cell_row rfl _ _ (w.heap.size + 1) 25 #[.int .i64 2, .int .i64 0, .int .i64 0, .bool false, .int .i64 0, .int .i64 0, .int .i64 0, .int .i64 0, .int .i64 i, .int .i64 y, .int .i64 0, .int .i64 0] (0, 0) _ rfl (by (with_reducible repeat (first | refine blk_drewN ?_ _ | refine blk_drew ?_)); exact blk_alloc (new_at _ _ _ (size_alloc _ _).symm) _) Try.underlying25 rfl (by kernel_rfl)) rfl ⟨rfl, by repeat (first | exact Below.refl _ _ | apply below_alloc | apply below_drew1 | apply pw_below_drewN)⟩
set_option maxHeartbeats 2000000 in
set_option maxRecDepth 100000 in
theorem rbare_6 (a s : Int) (b : Bool) (p q n t i y d m : Int) (w : World) : Calls Try.prog 65 #[.agg #[.int .i64 6, .int .i64 a, .int .i64 s, .bool b, .int .i64 p, .int .i64 q, .int .i64 n, .int .i64 t, .int .i64 i, .int .i64 y, .int .i64 d, .int .i64 m]] w fun e w' => e = .returned (.agg #[.int .i64 6, .int .i64 0, .int .i64 0, .bool false, .int .i64 0, .int .i64 0, .int .i64 0, .int .i64 0, .int .i64 0, .int .i64 0, .int .i64 d, .int .i64 m]) ∧ Below w.heap.size w w' := by
  go_enter Try.func65, Try.ntmps65
  go_wp2
  go_region
  all_goals go_wp2
  all_goals refine bodyPost_ret (results_cell_row rfl _ _ (w.heap.size + 1) 25 #[.int .i64 6, .int .i64 0, .int .i64 0, .bool false, .int .i64 0, .int .i64 0, .int .i64 0, .int .i64 0, .int .i64 0, .int .i64 0, .int .i64 d, .int .i64 m] (0, 0) _ rfl (by (with_reducible repeat (first | refine blk_drewN ?_ _ | refine blk_drew ?_)); exact blk_alloc (new_at _ _ _ (size_alloc _ _).symm) _) Try.underlying25 rfl (by kernel_rfl)) rfl ⟨rfl, by repeat (first | exact Below.refl _ _ | apply below_alloc | apply below_drew1 | apply pw_below_drewN)⟩
/-- The reference's Bare. -/
theorem rbare_ (m : Msg) (w : World) : Calls Try.prog 65 #[m.v] w fun e w' => e = .returned (bareM m).v ∧ Below w.heap.size w w' := by
  obtain ⟨k, a, s, b, p, q, n, t, i, y, d, m⟩ := m
  by_cases k0 : k = 0
  · subst k0; exact rbare_0 a s b p q n t i y d m w
  by_cases k1 : k = 1
  · subst k1; exact rbare_1 a s b p q n t i y d m w
  by_cases k3 : k = 3
  · subst k3; exact rbare_3 a s b p q n t i y d m w
  by_cases k2 : k = 2
  · subst k2; exact rbare_2 a s b p q n t i y d m w
  by_cases k6 : k = 6
  · subst k6; exact rbare_6 a s b p q n t i y d m w
  have e : bareM ⟨k, a, s, b, p, q, n, t, i, y, d, m⟩ = ⟨k, 0, 0, false, 0, 0, 0, 0, 0, 0, 0, 0⟩ := by
    unfold bareM
    rw [if_neg k0, if_neg (show ¬ (k = 1 ∨ k = 3) by omega), if_neg k2, if_neg k6]
  rw [e]
  exact rbare_o k a s b p q n t i y d m w k0 k1 k3 k2 k6
end Go.Proofs.Ytgikjgekdeaneaa.Wire
