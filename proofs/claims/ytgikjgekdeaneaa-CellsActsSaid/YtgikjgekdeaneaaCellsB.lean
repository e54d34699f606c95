/- The reference's New of four words and three latches, by hand. -/
import Derived.Test.YtgikjgekdeaneaaCellsA
namespace Go.Proofs.Ytgikjgekdeaneaa.Cells
open Go.RowKit Go.Proofs.Ytgikjgekdeaneaa.QCellsNews Go.Proofs.YtgikjgekdeaneaaW.PrintWords Go.Proofs.YtgikjgekdeaneaaW.PrintLast Go.Proofs.YtgikjgekdeaneaaW.PrintMore
set_option linter.unusedVariables false
set_option linter.unusedSimpArgs false
theorem make4 (W : World) : (Instr.makeSlice 56 (.int .i64 4) (.int .i64 4)).run Try.prog W = .ok (.slice (some ⟨W.heap.size, 0, none⟩) 4 4) (W.alloc (.cells #[.int .i64 0, .int .i64 0, .int .i64 0, .int .i64 0] 2)) := makew 4 (by decide) W
theorem make3 (W : World) : (Instr.makeSlice 57 (.int .i64 3) (.int .i64 3)).run Try.prog W = .ok (.slice (some ⟨W.heap.size, 0, none⟩) 3 3) (W.alloc (.cells #[.int .i64 0, .int .i64 0, .int .i64 0] 3)) := make_ 3 (by decide) W
def three : Int → List Int → Prop := fun i l => (i = 0 ∧ l = [0, 0, 0]) ∨ (i = 1 ∧ l = [-1, 0, 0]) ∨ (i = 2 ∧ l = [-1, -1, 0]) ∨ (i = 3 ∧ l = [-1, -1, -1])
theorem Did.made {w X : World} {gw gl : Nat} {ws ls : List Int} (hb : Below w.heap.size w X) (hw : Row X .i64 gw ws) (hl : Row X .i64 gl ls) (h1 : w.heap.size ≤ gw) (h2 : w.heap.size ≤ gl) (hne : gw ≠ gl) :
    Did w.heap.size 59 w (X.alloc (.cells #[.slice (some ⟨gw, 0, none⟩) ws.length ws.length, .slice (some ⟨gl, 0, none⟩) ls.length ls.length, .int .i64 0] 59)) X.heap.size gw gl ws ls 0 := by
  have hs := hb.size
  have l1 := hw.lt
  have l2 := hl.lt
  exact ⟨⟨heap_alloc_new X _, hw.alloc _, hl.alloc _, ⟨hs, h1, h2⟩, ⟨by omega, by omega, hne⟩⟩, hb.alloc hs _, Ko.of_below (hb.alloc hs _)⟩
theorem size_alloc (W : World) (o : Obj) : (W.alloc o).heap.size = W.heap.size + 1 := by simp
def O4 : Obj := .cells #[.int .i64 0, .int .i64 0, .int .i64 0, .int .i64 0] 2
def O3 : Obj := .cells #[.int .i64 0, .int .i64 0, .int .i64 0] 3
theorem made_ab (w : World) : Did w.heap.size 59 w (((w.alloc O4).alloc O3).alloc (.cells #[.slice (some ⟨w.heap.size, 0, none⟩) 4 4, .slice (some ⟨w.heap.size + 1, 0, none⟩) 3 3, .int .i64 0] 59)) (w.heap.size + 1 + 1) w.heap.size (w.heap.size + 1) [0, 0, 0, 0] [0, 0, 0] 0 := by
  have hb : Below w.heap.size w ((w.alloc O4).alloc O3) := ((Below.refl _ _).alloc (Nat.le_refl _) _).alloc (by simp) _
  have h := Did.made (ws := [0, 0, 0, 0]) (ls := [0, 0, 0]) hb ⟨2, blk_alloc (new_at w O4 w.heap.size rfl) O3⟩ ⟨3, new_at (w.alloc O4) O3 (w.heap.size + 1) (size_alloc _ _).symm⟩ (Nat.le_refl _) (by omega) (by omega)
  rw [size_alloc, size_alloc] at h
  exact h
theorem made_ba (w : World) : Did w.heap.size 59 w (((w.alloc O3).alloc O4).alloc (.cells #[.slice (some ⟨w.heap.size + 1, 0, none⟩) 4 4, .slice (some ⟨w.heap.size, 0, none⟩) 3 3, .int .i64 0] 59)) (w.heap.size + 1 + 1) (w.heap.size + 1) w.heap.size [0, 0, 0, 0] [0, 0, 0] 0 := by
  have hb : Below w.heap.size w ((w.alloc O3).alloc O4) := ((Below.refl _ _).alloc (Nat.le_refl _) _).alloc (by simp) _
  have h := Did.made (ws := [0, 0, 0, 0]) (ls := [0, 0, 0]) hb ⟨2, new_at (w.alloc O3) O4 (w.heap.size + 1) (size_alloc _ _).symm⟩ ⟨3, blk_alloc (new_at w O3 w.heap.size rfl) O4⟩ (by omega) (Nat.le_refl _) (by omega)
  rw [size_alloc, size_alloc] at h
  exact h
set_option maxHeartbeats 8000000 in
set_option maxRecDepth 100000 in
theorem rnew (w : World) : Calls Try.prog 25 #[.int .i64 4, .int .i64 3] w fun e w' => ∃ g gw gl, e = .returned (.pointer (some ⟨g, 0, none⟩)) ∧ Did w.heap.size 59 w w' g gw gl [0, 0, 0, 0] [-1, -1, -1] 0 := by
 have m4 := make4
 have m3 := make3
 go_enter Try.func25, Try.ntmps25
 go_wp2
 go_region
 · go_wp2
   go_loopg [6] 4 (fun kq v6 w' => ∃ (i : Int) (ls : List Int), v6 = .int .i64 i ∧ Aside0 (three i ls ∧ (4 : Int) ≤ kq + i) ∧ Aside0 (Did w.heap.size 59 w w' (w.heap.size + 1 + 1) (w.heap.size) (w.heap.size + 1) [0, 0, 0, 0] ls 0))
   case atStart => exact ⟨0, _, rfl, ⟨.inl ⟨rfl, rfl⟩, by omega⟩, ⟨by (repeat apply Did.drewN); exact made_ab w⟩⟩
   case round =>
    obtain ⟨i, ls, rfl, HM, HD⟩ := hrel
    have h := HD.out.1
    have f0 := (blk_cell h.st 0).trans rfl
    have f1 := (blk_cell h.st 1).trans rfl
    obtain ⟨h3, hm⟩ := HM.out
    rcases h3 with ⟨rfl, rfl⟩ | ⟨rfl, rfl⟩ | ⟨rfl, rfl⟩ | ⟨rfl, rfl⟩
    · have f3 : wr.cell? ⟨w.heap.size + 1, 0, none⟩ = some (.int .i64 0) := h.la.at 0 (by decide) (by decide)
      have z3 : wr.frozen? ⟨w.heap.size + 1, 0, none⟩ = false := h.la.fz 0
      go_wp2
      go_roundg 3
      case measure => omega
      case rel => exact ⟨1, _, rfl, ⟨.inr (.inl ⟨rfl, rfl⟩), by omega⟩, ⟨by (repeat apply Did.drewN); exact HD.out.latch 0 (-1)⟩⟩
    · have f3 : wr.cell? ⟨w.heap.size + 1, 1, none⟩ = some (.int .i64 0) := h.la.at 1 (by decide) (by decide)
      have z3 : wr.frozen? ⟨w.heap.size + 1, 1, none⟩ = false := h.la.fz 1
      go_wp2
      go_roundg 2
      case measure => omega
      case rel => exact ⟨2, _, rfl, ⟨.inr (.inr (.inl ⟨rfl, rfl⟩)), by omega⟩, ⟨by (repeat apply Did.drewN); exact HD.out.latch 1 (-1)⟩⟩
    · have f3 : wr.cell? ⟨w.heap.size + 1, 2, none⟩ = some (.int .i64 0) := h.la.at 2 (by decide) (by decide)
      have z3 : wr.frozen? ⟨w.heap.size + 1, 2, none⟩ = false := h.la.fz 2
      go_wp2
      go_roundg 1
      case measure => omega
      case rel => exact ⟨3, _, rfl, ⟨.inr (.inr (.inr ⟨rfl, rfl⟩)), by omega⟩, ⟨by (repeat apply Did.drewN); exact HD.out.latch 2 (-1)⟩⟩
    · go_wp2
      go_ret
      exact ⟨_, _, _, rfl, by (repeat apply Did.drewN); exact HD.out⟩
 · go_wp2
   go_loopg [6] 4 (fun kq v6 w' => ∃ (i : Int) (ls : List Int), v6 = .int .i64 i ∧ Aside0 (three i ls ∧ (4 : Int) ≤ kq + i) ∧ Aside0 (Did w.heap.size 59 w w' (w.heap.size + 1 + 1) (w.heap.size + 1) (w.heap.size) [0, 0, 0, 0] ls 0))
   case atStart => exact ⟨0, _, rfl, ⟨.inl ⟨rfl, rfl⟩, by omega⟩, ⟨by (repeat apply Did.drewN); exact made_ba w⟩⟩
   case round =>
    obtain ⟨i, ls, rfl, HM, HD⟩ := hrel
    have h := HD.out.1
    have f0 := (blk_cell h.st 0).trans rfl
    have f1 := (blk_cell h.st 1).trans rfl
    obtain ⟨h3, hm⟩ := HM.out
    rcases h3 with ⟨rfl, rfl⟩ | ⟨rfl, rfl⟩ | ⟨rfl, rfl⟩ | ⟨rfl, rfl⟩
    · have f3 : wr.cell? ⟨w.heap.size, 0, none⟩ = some (.int .i64 0) := h.la.at 0 (by decide) (by decide)
      have z3 : wr.frozen? ⟨w.heap.size, 0, none⟩ = false := h.la.fz 0
      go_wp2
      go_roundg 3
      case measure => omega
      case rel => exact ⟨1, _, rfl, ⟨.inr (.inl ⟨rfl, rfl⟩), by omega⟩, ⟨by (repeat apply Did.drewN); exact HD.out.latch 0 (-1)⟩⟩
    · have f3 : wr.cell? ⟨w.heap.size, 1, none⟩ = some (.int .i64 0) := h.la.at 1 (by decide) (by decide)
      have z3 : wr.frozen? ⟨w.heap.size, 1, none⟩ = false := h.la.fz 1
      go_wp2
      go_roundg 2
      case measure => omega
      case rel => exact ⟨2, _, rfl, ⟨.inr (.inr (.inl ⟨rfl, rfl⟩)), by omega⟩, ⟨by (repeat apply Did.drewN); exact HD.out.latch 1 (-1)⟩⟩
    · have f3 : wr.cell? ⟨w.heap.size, 2, none⟩ = some (.int .i64 0) := h.la.at 2 (by decide) (by decide)
      have z3 : wr.frozen? ⟨w.heap.size, 2, none⟩ = false := h.la.fz 2
      go_wp2
      go_roundg 1
      case measure => omega
      case rel => exact ⟨3, _, rfl, ⟨.inr (.inr (.inr ⟨rfl, rfl⟩)), by omega⟩, ⟨by (repeat apply Did.drewN); exact HD.out.latch 2 (-1)⟩⟩
    · go_wp2
      go_ret
      exact ⟨_, _, _, rfl, by (repeat apply Did.drewN); exact HD.out⟩
end Go.Proofs.Ytgikjgekdeaneaa.Cells
