/- The law's told, by hand. -/
import Derived.Test.YtgikjgekdeaneaaCellsN
namespace Go.Proofs.Ytgikjgekdeaneaa.Cells
open Go.RowKit Go.Proofs.Ytgikjgekdeaneaa.QCellsNews Go.Proofs.YtgikjgekdeaneaaW.PrintWords Go.Proofs.YtgikjgekdeaneaaW.PrintLast Go.Proofs.YtgikjgekdeaneaaW.PrintMore
set_option linter.unusedVariables false
set_option linter.unusedSimpArgs false
theorem Did.as {n g gw gl : Nat} {T : TypeId} {w w' : World} {ws ls ws' ls' : List Int} {t t' : Int} (h : Did n T w w' g gw gl ws ls t) (h1 : ws = ws') (h2 : ls = ls') (h3 : t = t') : Did n T w w' g gw gl ws' ls' t' := by
  subst h1; subst h2; subst h3; exact h
theorem new_11 (w : World) : Calls Try.prog 24 #[.int .i64 1, .int .i64 1] w fun e w' => ∃ g gw gl, e = .returned (.tuple #[.pointer (some ⟨g, 0, none⟩), .int .i64 0]) ∧ Did w.heap.size 137 w w' g gw gl [0] [-1] 0 := new_yes 1 1 w (by decide) (by decide)
theorem holder0 {n g gw gl : Nat} {ws : List Int} {t : Int} (x : Int) (w : World) (h : Cs n 137 w g gw gl ws [x] t) : Calls Try.prog 31 #[.pointer (some ⟨g, 0, none⟩), .int .i64 0] w fun e w' => e = .returned (.int .i64 x) ∧ Drawn0 w w' := by
  have := holder 0 w h
  rw [if_pos (by simp)] at this
  exact this
theorem peek0 {n g gw gl : Nat} {ls : List Int} {t : Int} (x : Int) (w : World) (h : Cs n 137 w g gw gl [x] ls t) : Calls Try.prog 30 #[.pointer (some ⟨g, 0, none⟩), .int .i64 0] w fun e w' => e = .returned (.int .i64 x) ∧ Drawn0 w w' := by
  have := peek 0 w h
  rw [if_pos (by simp)] at this
  exact this
set_option maxHeartbeats 8000000 in
set_option maxRecDepth 100000 in
theorem told (w : World) : Calls Try.prog 26 #[] w fun e w' => e = .returned (.bool true) ∧ Below w.heap.size w w' := by
 go_enter Try.func26, Try.ntmps26
 go_wp2_with (first | (go_at_call 24; refine (new_11 _).mono ?_; rintro e w1 ⟨g, gw, gl, rfl, d0⟩) | (go_at_call 35; refine (take_yes 0 0 _ d0.1 (by decide) (by decide)).mono ?_; rintro e w2 ⟨rfl, d1⟩; replace d1 : Did w.heap.size 137 w w2 g gw gl [0] [0] 1 := (d0.trans d1).as rfl rfl (by decide +kernel); clear d0) | (go_at_call 35; refine (take_no 1 0 _ d1.1 (by decide) (by decide)).mono ?_; rintro e w3 ⟨rfl, d2⟩; replace d2 : Did w.heap.size 137 w w3 g gw gl [0] [0] 2 := (d1.trans d2).as rfl rfl (by decide +kernel); clear d1) | (go_at_call 36; refine (free_no 1 0 _ d2.1 (by decide) (by decide)).mono ?_; rintro e w4 ⟨rfl, d3⟩; replace d3 : Did w.heap.size 137 w w4 g gw gl [0] [0] 3 := (d2.trans d3).as rfl rfl (by decide +kernel); clear d2) | (go_at_call 32; refine (store_hit 0 7 _ d3.1 (by decide)).mono ?_; rintro e w5 ⟨rfl, d4⟩; replace d4 : Did w.heap.size 137 w w5 g gw gl [7] [0] 4 := (d3.trans d4).as rfl rfl (by decide +kernel); clear d3) | (go_at_call 34; refine (swap_yes 0 7 9 _ d4.1 (by decide) (by decide)).mono ?_; rintro e w6 ⟨rfl, d5⟩; replace d5 : Did w.heap.size 137 w w6 g gw gl [9] [0] 5 := (d4.trans d5).as rfl rfl (by decide +kernel); clear d4) | (go_at_call 34; refine (swap_no 0 7 8 _ d5.1 (by decide) (by decide)).mono ?_; rintro e w7 ⟨rfl, d6⟩; replace d6 : Did w.heap.size 137 w w7 g gw gl [9] [0] 6 := (d5.trans d6).as rfl rfl (by decide +kernel); clear d5) | (go_at_call 33; refine (load_hit 0 _ d6.1 (by decide)).mono ?_; rintro e w8 ⟨rfl, d7⟩; replace d7 : Did w.heap.size 137 w w8 g gw gl [9] [0] 7 := (d6.trans d7).as rfl rfl (by decide +kernel); clear d6; have r9 : rd [9] 0 = 9 := rfl; rw [r9]) | (go_at_call 29; refine (time_ _ d7.1).mono ?_; rintro e w9 ⟨rfl, ⟨n9, rfl⟩⟩) | (go_at_call 31; refine (holder0 0 _ (d7.1.drewN n9)).mono ?_; rintro e w10 ⟨rfl, ⟨n10, rfl⟩⟩) | (go_at_call 30; refine (peek0 9 _ (d7.1.drewN _)).mono ?_; rintro e w11 ⟨rfl, ⟨n11, rfl⟩⟩))
 go_ret
 exact ⟨rfl, by repeat (first | exact d7.2 | apply pw_below_drewN)⟩
end Go.Proofs.Ytgikjgekdeaneaa.Cells
