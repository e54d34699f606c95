/- cells.New, by hand. -/
import Derived.Test.YtgikjgekdeaneaaCellsR
import Derived.Deep.RegionWith
namespace Go.Proofs.Ytgikjgekdeaneaa.Cells
open Go.RowKit Go.Proofs.Ytgikjgekdeaneaa.QCellsNews Go.Proofs.YtgikjgekdeaneaaW.PrintWords Go.Proofs.YtgikjgekdeaneaaW.PrintLast Go.Proofs.YtgikjgekdeaneaaW.PrintMore
set_option linter.unusedVariables false
set_option linter.unusedSimpArgs false
theorem new_at (W : World) (o : Obj) (g : Nat) (h : g = W.heap.size) : (W.alloc o).heap[g]? = some o := by
  subst h
  exact heap_alloc_new W o
theorem row_rep (W : World) (g a : Nat) (t : TypeId) (h : W.heap[g]? = some (.cells (Array.replicate a (Value.int .i64 0)) t (0, 0))) : Row W .i64 g (List.replicate a 0) := ⟨t, by rw [h]; simp⟩
theorem Row.alloc {w : World} {k : IntKind} {g : Nat} {xs : List Int} (h : Row w k g xs) (o : Obj) : Row (w.alloc o) k g xs := by
  obtain ⟨t, h⟩ := h
  exact ⟨t, blk_alloc h o⟩
theorem Row.lt {w : World} {k : IntKind} {g : Nat} {xs : List Int} (h : Row w k g xs) : g < w.heap.size := by
  obtain ⟨t, h⟩ := h
  exact blk_lt h
theorem Did.make {w X : World} {gw gl a b : Nat} (hb : Below w.heap.size w X) (hw : Row X .i64 gw (List.replicate a 0)) (hl : Row X .i64 gl (List.replicate b (-1))) (h1 : w.heap.size ≤ gw) (h2 : w.heap.size ≤ gl) (hne : gw ≠ gl) :
    Did w.heap.size 137 w (X.alloc (.cells #[.slice (some ⟨gw, 0, none⟩) a a, .slice (some ⟨gl, 0, none⟩) b b, .int .i64 0] 137)) X.heap.size gw gl (List.replicate a 0) (List.replicate b (-1)) 0 := by
  have hs := hb.size
  have l1 := hw.lt
  have l2 := hl.lt
  exact ⟨⟨by rw [List.length_replicate, List.length_replicate]; exact heap_alloc_new X _, hw.alloc _, hl.alloc _, ⟨hs, h1, h2⟩, ⟨by omega, by omega, hne⟩⟩, hb.alloc hs _, Ko.of_below (hb.alloc hs _)⟩
theorem may_f (a : Int) : cells_may.f a = some (decide (0 ≤ a ∧ a ≤ 65536)) := by
  unfold cells_may.f
  by_cases h : a ≥ 0
  · rw [if_pos h]; congr 1; rw [decide_eq_decide]; omega
  · rw [if_neg h, decide_eq_false (by omega)]
theorem makew (c : Nat) (hc : c ≤ 65536) (W : World) : (Instr.makeSlice 56 (.int .i64 (c : Int)) (.int .i64 (c : Int))).run Try.prog W = .ok (.slice (some ⟨W.heap.size, 0, none⟩) c c) (W.alloc (.cells ((List.replicate c (0 : Int)).map (Value.int .i64)).toArray 2)) := by
  obtain ⟨i, hi, hz, hs, hb⟩ := info_parts (P := Try.prog) (e := 2) (z := .int .i64 0) (size := 1) (bytes := 8) (by kernel_rfl)
  have := run_make (P := Try.prog) W 56 2 i _ (by kernel_rfl) hi hz .i64 .i64 c c (by omega) (by omega) (by rw [hb]; omega) (by omega)
  rw [this, hs, Nat.mul_one, Int.toNat_natCast]
  refine congrArg (fun x => Result.ok (Value.slice (some ⟨W.heap.size, 0, none⟩) c c) (W.alloc (.cells x 2))) ?_
  show madeCells #[.int .i64 0] c = _
  rw [cells_rp]
  simp [rp]
set_option maxHeartbeats 8000000 in
set_option maxRecDepth 100000 in
theorem new_no (a b : Int) (w : World) (h : ¬ ((0 ≤ a ∧ a ≤ 65536) ∧ (0 ≤ b ∧ b ≤ 65536))) :
  Calls Try.prog 24 #[.int .i64 a, .int .i64 b] w fun e w' => e = .returned (.tuple #[.pointer none, .int .i64 1]) ∧ Drawn0 w w' := by
 have h1 := may_f a
 have h2 := may_f b
 by_cases c0 : 0 ≤ a ∧ a ≤ 65536
 · rw [decide_eq_true c0] at h1
   rw [decide_eq_false (fun hb => h ⟨c0, hb⟩)] at h2
   go_enter Try.func24, Try.ntmps24
   go_wp2_with (first | (go_at_call 69; refine (cells_may.calls a true _ h1).mono ?_; rintro e w' ⟨rfl, ⟨nd, rfl⟩⟩) | (go_at_call 69; refine (cells_may.calls b false _ h2).mono ?_; rintro e w' ⟨rfl, ⟨nd2, rfl⟩⟩))
   go_ret2
   exact ⟨rfl, by repeat (first | exact Drawn0.refl _ | apply Drawn0.step)⟩
 · rw [decide_eq_false c0] at h1
   go_enter Try.func24, Try.ntmps24
   go_wp2_with (go_at_call 69; refine (cells_may.calls a false _ h1).mono ?_; rintro e w' ⟨rfl, ⟨nd, rfl⟩⟩)
   go_ret2
   exact ⟨rfl, by repeat (first | exact Drawn0.refl _ | apply Drawn0.step)⟩
set_option maxHeartbeats 8000000 in
set_option maxRecDepth 100000 in
theorem new_yes (a b : Nat) (w : World) (ha : a ≤ 65536) (hb : b ≤ 65536) :
  Calls Try.prog 24 #[.int .i64 (a : Int), .int .i64 (b : Int)] w fun e w' => ∃ g gw gl, e = .returned (.tuple #[.pointer (some ⟨g, 0, none⟩), .int .i64 0]) ∧ Did w.heap.size 137 w w' g gw gl (List.replicate a 0) (List.replicate b (-1)) 0 := by
 have h1 := may_f a
 have h2 := may_f b
 rw [decide_eq_true (by omega)] at h1
 rw [decide_eq_true (by omega)] at h2
 have hmk := makew a ha
 go_enter Try.func24, Try.ntmps24
 go_wp2_with (first | (go_at_call 69; refine (cells_may.calls a true _ h1).mono ?_; rintro e w' ⟨rfl, ⟨nd, rfl⟩⟩) | (go_at_call 69; refine (cells_may.calls b true _ h2).mono ?_; rintro e w' ⟨rfl, ⟨nd2, rfl⟩⟩))
 go_region_with (refine (repeat_ _ 3 b hb _ ?hx).mono ?_; (case hx => first | exact new_at _ _ _ (by simp) | exact blk_alloc (new_at _ _ _ (by simp)) _); rintro e w2 ⟨gr, hge, rfl, hrow, hbl⟩)
 · simp at hge
   go_wp2
   go_ret2
   refine ⟨_, _, _, rfl, Did.make (below_step (below_alloc (below_alloc (pw_below_drewN (Below.refl _ _) _) _) _) hbl) (Row.below (row_rep _ _ _ 2 (blk_alloc (new_at _ _ _ (by simp)) _)) hbl) hrow ?_ ?_ ?_⟩ <;> omega
 · simp at hge
   go_wp2
   go_ret2
   refine ⟨_, _, _, rfl, Did.make (below_step (below_alloc (below_alloc (pw_below_drewN (Below.refl _ _) _) _) _) hbl) (Row.below (row_rep _ _ _ 2 (new_at _ _ _ (by simp))) hbl) hrow ?_ ?_ ?_⟩ <;> omega
 · simp at hge
   have hlt := hrow.lt
   have hX := below_step (below_alloc (pw_below_drewN (Below.refl _ _) _) _) hbl
   have hs := hX.size
   go_wp2
   go_ret2
   have hsz : (w2.alloc (.cells (Array.replicate a (Value.int .i64 0)) 2)).heap.size = w2.heap.size + 1 := by simp
   have hd := Did.make (a := a) (below_alloc hX (.cells (Array.replicate a (Value.int .i64 0)) 2)) (row_rep _ w2.heap.size _ 2 (new_at _ _ _ rfl)) (hrow.alloc _) (by omega) (by omega) (by omega)
   rw [hsz] at hd
   exact ⟨_, _, _, rfl, hd⟩
end Go.Proofs.Ytgikjgekdeaneaa.Cells
