/- The law CellsNews walked, by hand. -/
import Derived.Test.YtgikjgekdeaneaaCellsT
namespace Go.Proofs.Ytgikjgekdeaneaa.Cells
open Go.RowKit Go.Proofs.Ytgikjgekdeaneaa.QCellsNews Go.Proofs.YtgikjgekdeaneaaW.PrintWords Go.Proofs.YtgikjgekdeaneaaW.PrintLast Go.Proofs.YtgikjgekdeaneaaW.PrintMore
set_option linter.unusedVariables false
set_option linter.unusedSimpArgs false
set_option maxHeartbeats 8000000 in
set_option maxRecDepth 100000 in
theorem news_00 (a b : Int) (w : World) (ha : a < 0) (hb0 : b < 0) : Calls Try.prog 6 #[.int .i64 a, .int .i64 b] w fun e w' => e = .returned (.bool true) ∧ Below w.heap.size w w' := by
 have x0 := decide_eq_false (show ¬ 9000 < a by omega)
 have x1 := decide_eq_true (show a ≤ 65536 by omega)
 have x2 := decide_eq_false (show ¬ 0 ≤ a by omega)
 have x3 := decide_eq_false (show ¬ 9000 < b by omega)
 have x4 := decide_eq_true (show b ≤ 65536 by omega)
 have x5 := decide_eq_false (show ¬ 0 ≤ b by omega)
 have hnw := fun w => new_no a b w (by omega)
 clear ha hb0
 go_enter Try.func6, Try.ntmps6
 go_wp2_with (first | (go_at_call 24; refine (hnw _).mono ?_; rintro e w1 ⟨rfl, ⟨n1, rfl⟩⟩) | (go_at_call 32; refine (store_nil 0 1 _).mono ?_; rintro e w2 ⟨rfl, ⟨n2, rfl⟩⟩) | (go_at_call 26; refine (told _).mono ?_; rintro e w3 ⟨rfl, hb⟩) | (go_at_call 29; refine (time_nil _).mono ?_; rintro e w4 ⟨rfl, ⟨n4, rfl⟩⟩) | (go_at_call 33; refine (load_nil 0 _).mono ?_; rintro e w5 ⟨rfl, ⟨n5, rfl⟩⟩) | (go_at_call 34; refine (swap_nil 0 0 1 _).mono ?_; rintro e w6 ⟨rfl, ⟨n6, rfl⟩⟩) | (go_at_call 35; refine (take_nil 0 0 _).mono ?_; rintro e w7 ⟨rfl, ⟨n7, rfl⟩⟩) | (go_at_call 36; refine (free_nil 0 0 _).mono ?_; rintro e w8 ⟨rfl, ⟨n8, rfl⟩⟩) | (go_at_call 30; refine (peek_nil 0 _).mono ?_; rintro e w9 ⟨rfl, ⟨n9, rfl⟩⟩) | (go_at_call 31; refine (holder_nil 0 _).mono ?_; rintro e w10 ⟨rfl, ⟨n10, rfl⟩⟩))
 go_ret
 exact ⟨rfl, by (repeat apply pw_below_drewN); exact below_step (pw_below_drewN (Below.refl _ _) _) hb⟩
set_option maxHeartbeats 8000000 in
set_option maxRecDepth 100000 in
theorem news_01 (a b : Int) (w : World) (ha : a < 0) (hb0 : 0 ≤ b ∧ b ≤ 9000) : Calls Try.prog 6 #[.int .i64 a, .int .i64 b] w fun e w' => e = .returned (.bool true) ∧ Below w.heap.size w w' := by
 have x0 := decide_eq_false (show ¬ 9000 < a by omega)
 have x1 := decide_eq_true (show a ≤ 65536 by omega)
 have x2 := decide_eq_false (show ¬ 0 ≤ a by omega)
 have x3 := decide_eq_false (show ¬ 9000 < b by omega)
 have x4 := decide_eq_true (show b ≤ 65536 by omega)
 have x5 := decide_eq_true (show 0 ≤ b by omega)
 have hnw := fun w => new_no a b w (by omega)
 clear ha hb0
 go_enter Try.func6, Try.ntmps6
 go_wp2_with (first | (go_at_call 24; refine (hnw _).mono ?_; rintro e w1 ⟨rfl, ⟨n1, rfl⟩⟩) | (go_at_call 32; refine (store_nil 0 1 _).mono ?_; rintro e w2 ⟨rfl, ⟨n2, rfl⟩⟩) | (go_at_call 26; refine (told _).mono ?_; rintro e w3 ⟨rfl, hb⟩) | (go_at_call 29; refine (time_nil _).mono ?_; rintro e w4 ⟨rfl, ⟨n4, rfl⟩⟩) | (go_at_call 33; refine (load_nil 0 _).mono ?_; rintro e w5 ⟨rfl, ⟨n5, rfl⟩⟩) | (go_at_call 34; refine (swap_nil 0 0 1 _).mono ?_; rintro e w6 ⟨rfl, ⟨n6, rfl⟩⟩) | (go_at_call 35; refine (take_nil 0 0 _).mono ?_; rintro e w7 ⟨rfl, ⟨n7, rfl⟩⟩) | (go_at_call 36; refine (free_nil 0 0 _).mono ?_; rintro e w8 ⟨rfl, ⟨n8, rfl⟩⟩) | (go_at_call 30; refine (peek_nil 0 _).mono ?_; rintro e w9 ⟨rfl, ⟨n9, rfl⟩⟩) | (go_at_call 31; refine (holder_nil 0 _).mono ?_; rintro e w10 ⟨rfl, ⟨n10, rfl⟩⟩))
 go_ret
 exact ⟨rfl, by (repeat apply pw_below_drewN); exact below_step (pw_below_drewN (Below.refl _ _) _) hb⟩
set_option maxHeartbeats 8000000 in
set_option maxRecDepth 100000 in
theorem news_02 (a b : Int) (w : World) (ha : a < 0) (hb0 : 9000 < b ∧ b ≤ 65536) : Calls Try.prog 6 #[.int .i64 a, .int .i64 b] w fun e w' => e = .returned (.bool true) ∧ Below w.heap.size w w' := by
 have x0 := decide_eq_false (show ¬ 9000 < a by omega)
 have x1 := decide_eq_true (show a ≤ 65536 by omega)
 have x2 := decide_eq_false (show ¬ 0 ≤ a by omega)
 have x3 := decide_eq_true (show 9000 < b by omega)
 have x4 := decide_eq_true (show b ≤ 65536 by omega)
 have x5 := decide_eq_true (show 0 ≤ b by omega)
 clear ha hb0
 go_enter Try.func6, Try.ntmps6
 go_wp2_with (go_at_call 26; refine (told _).mono ?_; rintro e w3 ⟨rfl, hb⟩)
 go_ret
 exact ⟨rfl, by repeat (first | exact hb | apply pw_below_drewN)⟩
set_option maxHeartbeats 8000000 in
set_option maxRecDepth 100000 in
theorem news_03 (a b : Int) (w : World) (ha : a < 0) (hb0 : 65536 < b) : Calls Try.prog 6 #[.int .i64 a, .int .i64 b] w fun e w' => e = .returned (.bool true) ∧ Below w.heap.size w w' := by
 have x0 := decide_eq_false (show ¬ 9000 < a by omega)
 have x1 := decide_eq_true (show a ≤ 65536 by omega)
 have x2 := decide_eq_false (show ¬ 0 ≤ a by omega)
 have x3 := decide_eq_true (show 9000 < b by omega)
 have x4 := decide_eq_false (show ¬ b ≤ 65536 by omega)
 have x5 := decide_eq_true (show 0 ≤ b by omega)
 have hnw := fun w => new_no a b w (by omega)
 clear ha hb0
 go_enter Try.func6, Try.ntmps6
 go_wp2_with (first | (go_at_call 24; refine (hnw _).mono ?_; rintro e w1 ⟨rfl, ⟨n1, rfl⟩⟩) | (go_at_call 32; refine (store_nil 0 1 _).mono ?_; rintro e w2 ⟨rfl, ⟨n2, rfl⟩⟩) | (go_at_call 26; refine (told _).mono ?_; rintro e w3 ⟨rfl, hb⟩) | (go_at_call 29; refine (time_nil _).mono ?_; rintro e w4 ⟨rfl, ⟨n4, rfl⟩⟩) | (go_at_call 33; refine (load_nil 0 _).mono ?_; rintro e w5 ⟨rfl, ⟨n5, rfl⟩⟩) | (go_at_call 34; refine (swap_nil 0 0 1 _).mono ?_; rintro e w6 ⟨rfl, ⟨n6, rfl⟩⟩) | (go_at_call 35; refine (take_nil 0 0 _).mono ?_; rintro e w7 ⟨rfl, ⟨n7, rfl⟩⟩) | (go_at_call 36; refine (free_nil 0 0 _).mono ?_; rintro e w8 ⟨rfl, ⟨n8, rfl⟩⟩) | (go_at_call 30; refine (peek_nil 0 _).mono ?_; rintro e w9 ⟨rfl, ⟨n9, rfl⟩⟩) | (go_at_call 31; refine (holder_nil 0 _).mono ?_; rintro e w10 ⟨rfl, ⟨n10, rfl⟩⟩))
 go_ret
 exact ⟨rfl, by (repeat apply pw_below_drewN); exact below_step (pw_below_drewN (Below.refl _ _) _) hb⟩
set_option maxHeartbeats 8000000 in
set_option maxRecDepth 100000 in
theorem news_10 (a b : Int) (w : World) (ha : 0 ≤ a ∧ a ≤ 9000) (hb0 : b < 0) : Calls Try.prog 6 #[.int .i64 a, .int .i64 b] w fun e w' => e = .returned (.bool true) ∧ Below w.heap.size w w' := by
 have x0 := decide_eq_false (show ¬ 9000 < a by omega)
 have x1 := decide_eq_true (show a ≤ 65536 by omega)
 have x2 := decide_eq_true (show 0 ≤ a by omega)
 have x3 := decide_eq_false (show ¬ 9000 < b by omega)
 have x4 := decide_eq_true (show b ≤ 65536 by omega)
 have x5 := decide_eq_false (show ¬ 0 ≤ b by omega)
 have hnw := fun w => new_no a b w (by omega)
 clear ha hb0
 go_enter Try.func6, Try.ntmps6
 go_wp2_with (first | (go_at_call 24; refine (hnw _).mono ?_; rintro e w1 ⟨rfl, ⟨n1, rfl⟩⟩) | (go_at_call 32; refine (store_nil 0 1 _).mono ?_; rintro e w2 ⟨rfl, ⟨n2, rfl⟩⟩) | (go_at_call 26; refine (told _).mono ?_; rintro e w3 ⟨rfl, hb⟩) | (go_at_call 29; refine (time_nil _).mono ?_; rintro e w4 ⟨rfl, ⟨n4, rfl⟩⟩) | (go_at_call 33; refine (load_nil 0 _).mono ?_; rintro e w5 ⟨rfl, ⟨n5, rfl⟩⟩) | (go_at_call 34; refine (swap_nil 0 0 1 _).mono ?_; rintro e w6 ⟨rfl, ⟨n6, rfl⟩⟩) | (go_at_call 35; refine (take_nil 0 0 _).mono ?_; rintro e w7 ⟨rfl, ⟨n7, rfl⟩⟩) | (go_at_call 36; refine (free_nil 0 0 _).mono ?_; rintro e w8 ⟨rfl, ⟨n8, rfl⟩⟩) | (go_at_call 30; refine (peek_nil 0 _).mono ?_; rintro e w9 ⟨rfl, ⟨n9, rfl⟩⟩) | (go_at_call 31; refine (holder_nil 0 _).mono ?_; rintro e w10 ⟨rfl, ⟨n10, rfl⟩⟩))
 go_ret
 exact ⟨rfl, by (repeat apply pw_below_drewN); exact below_step (pw_below_drewN (Below.refl _ _) _) hb⟩
set_option maxHeartbeats 8000000 in
set_option maxRecDepth 100000 in
theorem news_11 (a b : Int) (w : World) (ha : 0 ≤ a ∧ a ≤ 9000) (hb0 : 0 ≤ b ∧ b ≤ 9000) : Calls Try.prog 6 #[.int .i64 a, .int .i64 b] w fun e w' => e = .returned (.bool true) ∧ Below w.heap.size w w' := by
 obtain ⟨a, rfl⟩ : ∃ m : Nat, a = m := ⟨a.toNat, by omega⟩
 obtain ⟨b, rfl⟩ : ∃ m : Nat, b = m := ⟨b.toNat, by omega⟩
 have x0 := decide_eq_false (show ¬ 9000 < (a : Int) by omega)
 have x1 := decide_eq_true (show (a : Int) ≤ 65536 by omega)
 have x2 := decide_eq_true (show 0 ≤ (a : Int) by omega)
 have x3 := decide_eq_false (show ¬ 9000 < (b : Int) by omega)
 have x4 := decide_eq_true (show (b : Int) ≤ 65536 by omega)
 have x5 := decide_eq_true (show 0 ≤ (b : Int) by omega)
 have hnw := fun w => new_yes a b w (by omega) (by omega)
 clear ha hb0
 go_enter Try.func6, Try.ntmps6
 go_wp2_with (first | (go_at_call 24; refine (hnw _).mono ?_; rintro e w1 ⟨g, gw, gl, rfl, hd⟩) | (go_at_call 32; refine (store_nil 0 1 _).mono ?_; rintro e w2 ⟨rfl, ⟨n2, rfl⟩⟩) | (go_at_call 26; refine (told _).mono ?_; rintro e w3 ⟨rfl, hb⟩) | (go_at_call 29; refine (time_nil _).mono ?_; rintro e w4 ⟨rfl, ⟨n4, rfl⟩⟩) | (go_at_call 33; refine (load_nil 0 _).mono ?_; rintro e w5 ⟨rfl, ⟨n5, rfl⟩⟩) | (go_at_call 34; refine (swap_nil 0 0 1 _).mono ?_; rintro e w6 ⟨rfl, ⟨n6, rfl⟩⟩) | (go_at_call 35; refine (take_nil 0 0 _).mono ?_; rintro e w7 ⟨rfl, ⟨n7, rfl⟩⟩) | (go_at_call 36; refine (free_nil 0 0 _).mono ?_; rintro e w8 ⟨rfl, ⟨n8, rfl⟩⟩) | (go_at_call 30; refine (peek_nil 0 _).mono ?_; rintro e w9 ⟨rfl, ⟨n9, rfl⟩⟩) | (go_at_call 31; refine (holder_nil 0 _).mono ?_; rintro e w10 ⟨rfl, ⟨n10, rfl⟩⟩))
 go_ret
 exact ⟨rfl, by (repeat apply pw_below_drewN); exact below_step (pw_below_drewN hd.2 _) hb⟩
set_option maxHeartbeats 8000000 in
set_option maxRecDepth 100000 in
theorem news_12 (a b : Int) (w : World) (ha : 0 ≤ a ∧ a ≤ 9000) (hb0 : 9000 < b ∧ b ≤ 65536) : Calls Try.prog 6 #[.int .i64 a, .int .i64 b] w fun e w' => e = .returned (.bool true) ∧ Below w.heap.size w w' := by
 have x0 := decide_eq_false (show ¬ 9000 < a by omega)
 have x1 := decide_eq_true (show a ≤ 65536 by omega)
 have x2 := decide_eq_true (show 0 ≤ a by omega)
 have x3 := decide_eq_true (show 9000 < b by omega)
 have x4 := decide_eq_true (show b ≤ 65536 by omega)
 have x5 := decide_eq_true (show 0 ≤ b by omega)
 clear ha hb0
 go_enter Try.func6, Try.ntmps6
 go_wp2_with (go_at_call 26; refine (told _).mono ?_; rintro e w3 ⟨rfl, hb⟩)
 go_ret
 exact ⟨rfl, by repeat (first | exact hb | apply pw_below_drewN)⟩
set_option maxHeartbeats 8000000 in
set_option maxRecDepth 100000 in
theorem news_13 (a b : Int) (w : World) (ha : 0 ≤ a ∧ a ≤ 9000) (hb0 : 65536 < b) : Calls Try.prog 6 #[.int .i64 a, .int .i64 b] w fun e w' => e = .returned (.bool true) ∧ Below w.heap.size w w' := by
 have x0 := decide_eq_false (show ¬ 9000 < a by omega)
 have x1 := decide_eq_true (show a ≤ 65536 by omega)
 have x2 := decide_eq_true (show 0 ≤ a by omega)
 have x3 := decide_eq_true (show 9000 < b by omega)
 have x4 := decide_eq_false (show ¬ b ≤ 65536 by omega)
 have x5 := decide_eq_true (show 0 ≤ b by omega)
 have hnw := fun w => new_no a b w (by omega)
 clear ha hb0
 go_enter Try.func6, Try.ntmps6
 go_wp2_with (first | (go_at_call 24; refine (hnw _).mono ?_; rintro e w1 ⟨rfl, ⟨n1, rfl⟩⟩) | (go_at_call 32; refine (store_nil 0 1 _).mono ?_; rintro e w2 ⟨rfl, ⟨n2, rfl⟩⟩) | (go_at_call 26; refine (told _).mono ?_; rintro e w3 ⟨rfl, hb⟩) | (go_at_call 29; refine (time_nil _).mono ?_; rintro e w4 ⟨rfl, ⟨n4, rfl⟩⟩) | (go_at_call 33; refine (load_nil 0 _).mono ?_; rintro e w5 ⟨rfl, ⟨n5, rfl⟩⟩) | (go_at_call 34; refine (swap_nil 0 0 1 _).mono ?_; rintro e w6 ⟨rfl, ⟨n6, rfl⟩⟩) | (go_at_call 35; refine (take_nil 0 0 _).mono ?_; rintro e w7 ⟨rfl, ⟨n7, rfl⟩⟩) | (go_at_call 36; refine (free_nil 0 0 _).mono ?_; rintro e w8 ⟨rfl, ⟨n8, rfl⟩⟩) | (go_at_call 30; refine (peek_nil 0 _).mono ?_; rintro e w9 ⟨rfl, ⟨n9, rfl⟩⟩) | (go_at_call 31; refine (holder_nil 0 _).mono ?_; rintro e w10 ⟨rfl, ⟨n10, rfl⟩⟩))
 go_ret
 exact ⟨rfl, by (repeat apply pw_below_drewN); exact below_step (pw_below_drewN (Below.refl _ _) _) hb⟩
set_option maxHeartbeats 8000000 in
set_option maxRecDepth 100000 in
theorem news_20 (a b : Int) (w : World) (ha : 9000 < a ∧ a ≤ 65536) (hb0 : b < 0) : Calls Try.prog 6 #[.int .i64 a, .int .i64 b] w fun e w' => e = .returned (.bool true) ∧ Below w.heap.size w w' := by
 have x0 := decide_eq_true (show 9000 < a by omega)
 have x1 := decide_eq_true (show a ≤ 65536 by omega)
 have x2 := decide_eq_true (show 0 ≤ a by omega)
 have x3 := decide_eq_false (show ¬ 9000 < b by omega)
 have x4 := decide_eq_true (show b ≤ 65536 by omega)
 have x5 := decide_eq_false (show ¬ 0 ≤ b by omega)
 clear ha hb0
 go_enter Try.func6, Try.ntmps6
 go_wp2_with (go_at_call 26; refine (told _).mono ?_; rintro e w3 ⟨rfl, hb⟩)
 go_ret
 exact ⟨rfl, by repeat (first | exact hb | apply pw_below_drewN)⟩
set_option maxHeartbeats 8000000 in
set_option maxRecDepth 100000 in
theorem news_21 (a b : Int) (w : World) (ha : 9000 < a ∧ a ≤ 65536) (hb0 : 0 ≤ b ∧ b ≤ 9000) : Calls Try.prog 6 #[.int .i64 a, .int .i64 b] w fun e w' => e = .returned (.bool true) ∧ Below w.heap.size w w' := by
 have x0 := decide_eq_true (show 9000 < a by omega)
 have x1 := decide_eq_true (show a ≤ 65536 by omega)
 have x2 := decide_eq_true (show 0 ≤ a by omega)
 have x3 := decide_eq_false (show ¬ 9000 < b by omega)
 have x4 := decide_eq_true (show b ≤ 65536 by omega)
 have x5 := decide_eq_true (show 0 ≤ b by omega)
 clear ha hb0
 go_enter Try.func6, Try.ntmps6
 go_wp2_with (go_at_call 26; refine (told _).mono ?_; rintro e w3 ⟨rfl, hb⟩)
 go_ret
 exact ⟨rfl, by repeat (first | exact hb | apply pw_below_drewN)⟩
set_option maxHeartbeats 8000000 in
set_option maxRecDepth 100000 in
theorem news_22 (a b : Int) (w : World) (ha : 9000 < a ∧ a ≤ 65536) (hb0 : 9000 < b ∧ b ≤ 65536) : Calls Try.prog 6 #[.int .i64 a, .int .i64 b] w fun e w' => e = .returned (.bool true) ∧ Below w.heap.size w w' := by
 have x0 := decide_eq_true (show 9000 < a by omega)
 have x1 := decide_eq_true (show a ≤ 65536 by omega)
 have x2 := decide_eq_true (show 0 ≤ a by omega)
 have x3 := decide_eq_true (show 9000 < b by omega)
 have x4 := decide_eq_true (show b ≤ 65536 by omega)
 have x5 := decide_eq_true (show 0 ≤ b by omega)
 clear ha hb0
 go_enter Try.func6, Try.ntmps6
 go_wp2_with (go_at_call 26; refine (told _).mono ?_; rintro e w3 ⟨rfl, hb⟩)
 go_ret
 exact ⟨rfl, by repeat (first | exact hb | apply pw_below_drewN)⟩
set_option maxHeartbeats 8000000 in
set_option maxRecDepth 100000 in
theorem news_23 (a b : Int) (w : World) (ha : 9000 < a ∧ a ≤ 65536) (hb0 : 65536 < b) : Calls Try.prog 6 #[.int .i64 a, .int .i64 b] w fun e w' => e = .returned (.bool true) ∧ Below w.heap.size w w' := by
 have x0 := decide_eq_true (show 9000 < a by omega)
 have x1 := decide_eq_true (show a ≤ 65536 by omega)
 have x2 := decide_eq_true (show 0 ≤ a by omega)
 have x3 := decide_eq_true (show 9000 < b by omega)
 have x4 := decide_eq_false (show ¬ b ≤ 65536 by omega)
 have x5 := decide_eq_true (show 0 ≤ b by omega)
 clear ha hb0
 go_enter Try.func6, Try.ntmps6
 go_wp2_with (go_at_call 26; refine (told _).mono ?_; rintro e w3 ⟨rfl, hb⟩)
 go_ret
 exact ⟨rfl, by repeat (first | exact hb | apply pw_below_drewN)⟩
set_option maxHeartbeats 8000000 in
set_option maxRecDepth 100000 in
theorem news_30 (a b : Int) (w : World) (ha : 65536 < a) (hb0 : b < 0) : Calls Try.prog 6 #[.int .i64 a, .int .i64 b] w fun e w' => e = .returned (.bool true) ∧ Below w.heap.size w w' := by
 have x0 := decide_eq_true (show 9000 < a by omega)
 have x1 := decide_eq_false (show ¬ a ≤ 65536 by omega)
 have x2 := decide_eq_true (show 0 ≤ a by omega)
 have x3 := decide_eq_false (show ¬ 9000 < b by omega)
 have x4 := decide_eq_true (show b ≤ 65536 by omega)
 have x5 := decide_eq_false (show ¬ 0 ≤ b by omega)
 have hnw := fun w => new_no a b w (by omega)
 clear ha hb0
 go_enter Try.func6, Try.ntmps6
 go_wp2_with (first | (go_at_call 24; refine (hnw _).mono ?_; rintro e w1 ⟨rfl, ⟨n1, rfl⟩⟩) | (go_at_call 32; refine (store_nil 0 1 _).mono ?_; rintro e w2 ⟨rfl, ⟨n2, rfl⟩⟩) | (go_at_call 26; refine (told _).mono ?_; rintro e w3 ⟨rfl, hb⟩) | (go_at_call 29; refine (time_nil _).mono ?_; rintro e w4 ⟨rfl, ⟨n4, rfl⟩⟩) | (go_at_call 33; refine (load_nil 0 _).mono ?_; rintro e w5 ⟨rfl, ⟨n5, rfl⟩⟩) | (go_at_call 34; refine (swap_nil 0 0 1 _).mono ?_; rintro e w6 ⟨rfl, ⟨n6, rfl⟩⟩) | (go_at_call 35; refine (take_nil 0 0 _).mono ?_; rintro e w7 ⟨rfl, ⟨n7, rfl⟩⟩) | (go_at_call 36; refine (free_nil 0 0 _).mono ?_; rintro e w8 ⟨rfl, ⟨n8, rfl⟩⟩) | (go_at_call 30; refine (peek_nil 0 _).mono ?_; rintro e w9 ⟨rfl, ⟨n9, rfl⟩⟩) | (go_at_call 31; refine (holder_nil 0 _).mono ?_; rintro e w10 ⟨rfl, ⟨n10, rfl⟩⟩))
 go_ret
 exact ⟨rfl, by (repeat apply pw_below_drewN); exact below_step (pw_below_drewN (Below.refl _ _) _) hb⟩
set_option maxHeartbeats 8000000 in
set_option maxRecDepth 100000 in
theorem news_31 (a b : Int) (w : World) (ha : 65536 < a) (hb0 : 0 ≤ b ∧ b ≤ 9000) : Calls Try.prog 6 #[.int .i64 a, .int .i64 b] w fun e w' => e = .returned (.bool true) ∧ Below w.heap.size w w' := by
 have x0 := decide_eq_true (show 9000 < a by omega)
 have x1 := decide_eq_false (show ¬ a ≤ 65536 by omega)
 have x2 := decide_eq_true (show 0 ≤ a by omega)
 have x3 := decide_eq_false (show ¬ 9000 < b by omega)
 have x4 := decide_eq_true (show b ≤ 65536 by omega)
 have x5 := decide_eq_true (show 0 ≤ b by omega)
 have hnw := fun w => new_no a b w (by omega)
 clear ha hb0
 go_enter Try.func6, Try.ntmps6
 go_wp2_with (first | (go_at_call 24; refine (hnw _).mono ?_; rintro e w1 ⟨rfl, ⟨n1, rfl⟩⟩) | (go_at_call 32; refine (store_nil 0 1 _).mono ?_; rintro e w2 ⟨rfl, ⟨n2, rfl⟩⟩) | (go_at_call 26; refine (told _).mono ?_; rintro e w3 ⟨rfl, hb⟩) | (go_at_call 29; refine (time_nil _).mono ?_; rintro e w4 ⟨rfl, ⟨n4, rfl⟩⟩) | (go_at_call 33; refine (load_nil 0 _).mono ?_; rintro e w5 ⟨rfl, ⟨n5, rfl⟩⟩) | (go_at_call 34; refine (swap_nil 0 0 1 _).mono ?_; rintro e w6 ⟨rfl, ⟨n6, rfl⟩⟩) | (go_at_call 35; refine (take_nil 0 0 _).mono ?_; rintro e w7 ⟨rfl, ⟨n7, rfl⟩⟩) | (go_at_call 36; refine (free_nil 0 0 _).mono ?_; rintro e w8 ⟨rfl, ⟨n8, rfl⟩⟩) | (go_at_call 30; refine (peek_nil 0 _).mono ?_; rintro e w9 ⟨rfl, ⟨n9, rfl⟩⟩) | (go_at_call 31; refine (holder_nil 0 _).mono ?_; rintro e w10 ⟨rfl, ⟨n10, rfl⟩⟩))
 go_ret
 exact ⟨rfl, by (repeat apply pw_below_drewN); exact below_step (pw_below_drewN (Below.refl _ _) _) hb⟩
set_option maxHeartbeats 8000000 in
set_option maxRecDepth 100000 in
theorem news_32 (a b : Int) (w : World) (ha : 65536 < a) (hb0 : 9000 < b ∧ b ≤ 65536) : Calls Try.prog 6 #[.int .i64 a, .int .i64 b] w fun e w' => e = .returned (.bool true) ∧ Below w.heap.size w w' := by
 have x0 := decide_eq_true (show 9000 < a by omega)
 have x1 := decide_eq_false (show ¬ a ≤ 65536 by omega)
 have x2 := decide_eq_true (show 0 ≤ a by omega)
 have x3 := decide_eq_true (show 9000 < b by omega)
 have x4 := decide_eq_true (show b ≤ 65536 by omega)
 have x5 := decide_eq_true (show 0 ≤ b by omega)
 clear ha hb0
 go_enter Try.func6, Try.ntmps6
 go_wp2_with (go_at_call 26; refine (told _).mono ?_; rintro e w3 ⟨rfl, hb⟩)
 go_ret
 exact ⟨rfl, by repeat (first | exact hb | apply pw_below_drewN)⟩
set_option maxHeartbeats 8000000 in
set_option maxRecDepth 100000 in
theorem news_33 (a b : Int) (w : World) (ha : 65536 < a) (hb0 : 65536 < b) : Calls Try.prog 6 #[.int .i64 a, .int .i64 b] w fun e w' => e = .returned (.bool true) ∧ Below w.heap.size w w' := by
 have x0 := decide_eq_true (show 9000 < a by omega)
 have x1 := decide_eq_false (show ¬ a ≤ 65536 by omega)
 have x2 := decide_eq_true (show 0 ≤ a by omega)
 have x3 := decide_eq_true (show 9000 < b by omega)
 have x4 := decide_eq_false (show ¬ b ≤ 65536 by omega)
 have x5 := decide_eq_true (show 0 ≤ b by omega)
 have hnw := fun w => new_no a b w (by omega)
 clear ha hb0
 go_enter Try.func6, Try.ntmps6
 go_wp2_with (first | (go_at_call 24; refine (hnw _).mono ?_; rintro e w1 ⟨rfl, ⟨n1, rfl⟩⟩) | (go_at_call 32; refine (store_nil 0 1 _).mono ?_; rintro e w2 ⟨rfl, ⟨n2, rfl⟩⟩) | (go_at_call 26; refine (told _).mono ?_; rintro e w3 ⟨rfl, hb⟩) | (go_at_call 29; refine (time_nil _).mono ?_; rintro e w4 ⟨rfl, ⟨n4, rfl⟩⟩) | (go_at_call 33; refine (load_nil 0 _).mono ?_; rintro e w5 ⟨rfl, ⟨n5, rfl⟩⟩) | (go_at_call 34; refine (swap_nil 0 0 1 _).mono ?_; rintro e w6 ⟨rfl, ⟨n6, rfl⟩⟩) | (go_at_call 35; refine (take_nil 0 0 _).mono ?_; rintro e w7 ⟨rfl, ⟨n7, rfl⟩⟩) | (go_at_call 36; refine (free_nil 0 0 _).mono ?_; rintro e w8 ⟨rfl, ⟨n8, rfl⟩⟩) | (go_at_call 30; refine (peek_nil 0 _).mono ?_; rintro e w9 ⟨rfl, ⟨n9, rfl⟩⟩) | (go_at_call 31; refine (holder_nil 0 _).mono ?_; rintro e w10 ⟨rfl, ⟨n10, rfl⟩⟩))
 go_ret
 exact ⟨rfl, by (repeat apply pw_below_drewN); exact below_step (pw_below_drewN (Below.refl _ _) _) hb⟩
theorem news (a b : Int) (w : World) : Calls Try.prog 6 #[.int .i64 a, .int .i64 b] w fun e w' => e = .returned (.bool true) ∧ Below w.heap.size w w' := by
  have ha : a < 0 ∨ (0 ≤ a ∧ a ≤ 9000) ∨ (9000 < a ∧ a ≤ 65536) ∨ 65536 < a := by omega
  have hb : b < 0 ∨ (0 ≤ b ∧ b ≤ 9000) ∨ (9000 < b ∧ b ≤ 65536) ∨ 65536 < b := by omega
  rcases ha with ha | ha | ha | ha <;> rcases hb with hb | hb | hb | hb
  · exact news_00 a b w ha hb
  · exact news_01 a b w ha hb
  · exact news_02 a b w ha hb
  · exact news_03 a b w ha hb
  · exact news_10 a b w ha hb
  · exact news_11 a b w ha hb
  · exact news_12 a b w ha hb
  · exact news_13 a b w ha hb
  · exact news_20 a b w ha hb
  · exact news_21 a b w ha hb
  · exact news_22 a b w ha hb
  · exact news_23 a b w ha hb
  · exact news_30 a b w ha hb
  · exact news_31 a b w ha hb
  · exact news_32 a b w ha hb
  · exact news_33 a b w ha hb
end Go.Proofs.Ytgikjgekdeaneaa.Cells
