/- Wire: order and Decode by hand. -/
import Derived.Test.YtgikjgekdeaneaaWireU
import Derived.Test.YtgikjgekdeaneaaQWirey
namespace Go.Proofs.Ytgikjgekdeaneaa.Wire
open Go.RowKit Go.Proofs.YtgikjgekdeaneaaW.PrintWords Go.Proofs.YtgikjgekdeaneaaW.PrintLast Go.Proofs.YtgikjgekdeaneaaW.PrintMore Go.Proofs.Ytgikjgekdeaneaa.Own
set_option linter.unusedVariables false
set_option linter.unusedSimpArgs false
variable {lo : Nat}
/-- A message: its kind; an order's seven; Id, Qty, Node, Most. -/
structure Msg where
  k : Int
  a : Int
  s : Int
  b : Bool
  p : Int
  q : Int
  n : Int
  t : Int
  i : Int
  y : Int
  d : Int
  m : Int
/-- An order's. -/
structure Ord where
  a : Int
  s : Int
  b : Bool
  p : Int
  q : Int
  n : Int
  t : Int
/-- An order that is taken. -/
def ord (st : Option (List Int)) : Ord × Option (List Int) :=
  let t1 := take 2 st
  let t2 := take 2 t1.2
  let t3 := take 1 t2.2
  let t4 := take 8 (if 1 < t3.1 then none else t3.2)
  let t5 := take 8 t4.2
  let t6 := take 8 t5.2
  let t7 := take 8 t6.2
  (⟨t1.1, t2.1, t3.1 == 1, t4.1, t5.1, t6.1, t7.1⟩, t7.2)
theorem takeI' {g s : Nat} {st st' : Option (List Int)} {x : Int} (e : Aside0 (take s st = (x, st'))) (w : World) (h : Tk 127 lo w g st) (h8 : s ≤ 8) :
  Calls Try.prog 62 #[.pointer (some ⟨g, 0, none⟩), .int .i64 (s : Int)] w fun e w' => e = .returned (.int .i64 x) ∧ Tk 127 lo w' g st' ∧ Ch (one g) w w' := by
  have := takeI s st w h h8
  rwa [e.out] at this
theorem Tk.flag {T : TypeId} {w : World} {g : Nat} {st : Option (List Int)} (h : Tk T lo w g st) : w.frozen? ⟨g, 1, none⟩ = false ∧ ((st = none ∧ w.cell? ⟨g, 1, none⟩ = some (.bool true)) ∨ ∃ l, st = some l ∧ w.cell? ⟨g, 1, none⟩ = some (.bool false)) := by
  obtain ⟨A, n, c, b, h1, h2, h3, h4⟩ := h.out
  refine ⟨blk_frozen h1 1, ?_⟩
  have hc := (blk_cell h1 1).trans rfl
  cases st with
  | none => rw [h4 rfl] at hc; exact .inl ⟨rfl, hc⟩
  | some l => rw [(h3 l rfl).1] at hc; exact .inr ⟨l, rfl, hc⟩
theorem Tk.put_bad {T : TypeId} {w : World} {g : Nat} {st : Option (List Int)} (h : Tk T lo w g st) : Tk T lo (w.setCell ⟨g, 1, none⟩ (.bool true)) g none := by
  obtain ⟨A, n, c, b, h1, h2, h3, h4⟩ := h.out
  exact Tk.mk_bad (blk_put h1 1 _ rfl) h2
theorem Tk.put_ok {T : TypeId} {w : World} {g : Nat} {l : List Int} (h : Tk T lo w g (some l)) : Tk T lo (w.setCell ⟨g, 1, none⟩ (.bool false)) g (some l) := by
  obtain ⟨A, c, h1, h2, h3, h4⟩ := h.good
  exact Tk.mk_good (blk_put h1 1 _ rfl) h2 h3 (h4.set 1 _)
set_option maxHeartbeats 8000000 in
set_option maxRecDepth 100000 in
theorem order_ {g : Nat} (st : Option (List Int)) (w : World) (h : Tk 127 lo w g st) :
  Calls Try.prog 63 #[.pointer (some ⟨g, 0, none⟩)] w fun e w' => e = .returned (.agg #[.int .i64 (ord st).1.a, .int .i64 (ord st).1.s, .bool (ord st).1.b, .int .i64 (ord st).1.p, .int .i64 (ord st).1.q, .int .i64 (ord st).1.n, .int .i64 (ord st).1.t]) ∧ Tk 127 lo w' g (ord st).2 ∧ Ch (one g) w w' := by
 have hlt := h.lt
 obtain ⟨x1, s1, e1⟩ : ∃ x s, take 2 st = (x, s) := ⟨_, _, rfl⟩
 obtain ⟨x2, s2, e2⟩ : ∃ x s, take 2 s1 = (x, s) := ⟨_, _, rfl⟩
 obtain ⟨x3, s3, e3⟩ : ∃ x s, take 1 s2 = (x, s) := ⟨_, _, rfl⟩
 obtain ⟨x4, s4, e4⟩ : ∃ x s, take 8 (if 1 < x3 then none else s3) = (x, s) := ⟨_, _, rfl⟩
 obtain ⟨x5, s5, e5⟩ : ∃ x s, take 8 s4 = (x, s) := ⟨_, _, rfl⟩
 obtain ⟨x6, s6, e6⟩ : ∃ x s, take 8 s5 = (x, s) := ⟨_, _, rfl⟩
 obtain ⟨x7, s7, e7⟩ : ∃ x s, take 8 s6 = (x, s) := ⟨_, _, rfl⟩
 have eo : ord st = (⟨x1, x2, x3 == 1, x4, x5, x6, x7⟩, s7) := by simp only [ord, e1, e2, e3, e4, e5, e6, e7]
 rw [eo]
 have E1 := Aside0.mk e1; have E2 := Aside0.mk e2; have E3 := Aside0.mk e3; have E4 := Aside0.mk e4; have E5 := Aside0.mk e5; have E6 := Aside0.mk e6; have E7 := Aside0.mk e7
 clear e1 e2 e3 e4 e5 e6 e7 eo
 go_enter Try.func63, Try.ntmps63
 go_wp2_with (fail)
 refine (takeI' E1 _ (h.alloc _) (by decide)).mono ?_
 rintro e w1 ⟨rfl, h1, c1⟩
 have C1 : Ch (one g) w w1 := ((Ch.refl (one g) w).alloc _).trans c1
 have R1 := c1.blk (new_at w _ _ rfl) (Nat.ne_of_gt hlt)
 clear c1 h
 go_wp2_with (fail)
 refine (takeI' E2 _ h1 (by decide)).mono ?_
 rintro e w2 ⟨rfl, h2, c2⟩
 have C2 := C1.trans c2
 have R2 := c2.blk R1 (Nat.ne_of_gt hlt)
 clear c2 h1 C1 R1
 go_wp2_with (fail)
 have hl2 := h2.lt
 refine (takeI' E3 _ (h2.alloc _) (by decide)).mono ?_
 rintro e w3 ⟨rfl, h3, c3⟩
 have C3 := (C2.alloc _).trans c3
 have R3 := c3.blk (blk_alloc R2 _) (Nat.ne_of_gt hlt)
 have B3 := c3.blk (new_at w2 _ _ rfl) (Nat.ne_of_gt hl2)
 have hbr : w.heap.size < w2.heap.size := blk_lt R2
 clear c3 h2 R2
 have f2 := (blk_cell B3 2).trans rfl
 have z2 := blk_frozen B3 2
 have a0 : g ≠ w2.heap.size := Nat.ne_of_lt hl2
 have a1 : w2.heap.size ≠ g := Nat.ne_of_gt hl2
 obtain ⟨zg, hf⟩ := h3.flag
 have B4 := blk_far (p := ⟨g, 1, none⟩) (blk_put B3 2 (.bool (x3 == 1)) rfl) a1
 have R4 := blk_far (p := ⟨g, 1, none⟩) (blk_far (p := ⟨w2.heap.size, 2, none⟩) R3 (Nat.ne_of_lt hbr) (.bool (x3 == 1))) (Nat.ne_of_gt hlt)
 have C4 := C3.set (p := ⟨w2.heap.size, 2, none⟩) (fun h => absurd h (by show ¬ w2.heap.size < _; omega)) (.bool (x3 == 1))
 have T4 := h3.far hl2 (i := 2) (.bool (x3 == 1))
 have hgo : ∀ b : Bool, (Tk 127 lo ((w3.setCell ⟨w2.heap.size, 2, none⟩ (.bool (x3 == 1))).setCell ⟨g, 1, none⟩ (.bool b)) g (if 1 < x3 then none else s3)) → Aside0 (Tk 127 lo ((w3.setCell ⟨w2.heap.size, 2, none⟩ (.bool (x3 == 1))).setCell ⟨g, 1, none⟩ (.bool b)) g (if 1 < x3 then none else s3)) := fun _ h => ⟨h⟩
 have HS : (∃ b, w3.cell? ⟨g, 1, none⟩ = some (.bool b) ∧ Aside0 (Tk 127 lo ((w3.setCell ⟨w2.heap.size, 2, none⟩ (.bool (x3 == 1))).setCell ⟨g, 1, none⟩ (.bool (b || decide (1 < x3)))) g (if 1 < x3 then none else s3))) := by
  rcases hf with ⟨rfl, hf⟩ | ⟨l, rfl, hf⟩
  · exact ⟨true, hf, ⟨by rw [ite_self]; exact T4.put_bad⟩⟩
  · by_cases h1 : 1 < x3
    · exact ⟨false, hf, ⟨by rw [if_pos h1, decide_eq_true h1]; exact T4.put_bad⟩⟩
    · exact ⟨false, hf, ⟨by rw [if_neg h1, decide_eq_false h1]; exact T4.put_ok⟩⟩
 obtain ⟨b, fg, HT⟩ := HS
 clear hf hgo T4 h3 C3 R3
 cases b
 · simp only [Bool.false_or] at HT
   go_wp2_with (fail)
   refine (takeI' E4 _ HT.out (by decide)).mono ?_
   rintro e w4 ⟨rfl, h4, c4⟩
   have B4' := c4.blk (B4 (.bool (decide (1 < x3)))) a1
   have R4' := c4.blk (R4 (.bool (decide (1 < x3)))) (Nat.ne_of_gt hlt)
   have C4' := (C4.set (p := ⟨g, 1, none⟩) (fun _ => rfl) (.bool (decide (1 < x3)))).trans c4
   clear c4 HT B4 R4 C4 fg f2 z2 zg
   have f3 := (blk_cell B4' 3).trans rfl
   have z3 := blk_frozen B4' 3
   go_wp2_with (fail)
   refine (takeI' E5 _ (h4.far hl2 (i := 3) (.int .i64 x4)) (by decide)).mono ?_
   rintro e w5 ⟨rfl, h5, c5⟩
   have B5 := c5.blk (blk_put B4' 3 (.int .i64 x4) rfl) a1
   have R5 := c5.blk (blk_far (p := ⟨w2.heap.size, 3, none⟩) R4' (Nat.ne_of_lt hbr) (.int .i64 x4)) (Nat.ne_of_gt hlt)
   have C5 := (C4'.set (p := ⟨w2.heap.size, 3, none⟩) (fun h => absurd h (by show ¬ w2.heap.size < _; omega)) (.int .i64 x4)).trans c5
   clear c5 h4 B4' R4' C4' f3 z3
   have f4 := (blk_cell B5 4).trans rfl
   have z4 := blk_frozen B5 4
   go_wp2_with (fail)
   refine (takeI' E6 _ (h5.far hl2 (i := 4) (.int .i64 x5)) (by decide)).mono ?_
   rintro e w6 ⟨rfl, h6, c6⟩
   have B6 := c6.blk (blk_put B5 4 (.int .i64 x5) rfl) a1
   have R6 := c6.blk (blk_far (p := ⟨w2.heap.size, 4, none⟩) R5 (Nat.ne_of_lt hbr) (.int .i64 x5)) (Nat.ne_of_gt hlt)
   have C6 := (C5.set (p := ⟨w2.heap.size, 4, none⟩) (fun h => absurd h (by show ¬ w2.heap.size < _; omega)) (.int .i64 x5)).trans c6
   clear c6 h5 B5 R5 C5 f4 z4
   have f5 := (blk_cell B6 5).trans rfl
   have z5 := blk_frozen B6 5
   go_wp2_with (fail)
   refine (takeI' E7 _ (h6.far hl2 (i := 5) (.int .i64 x6)) (by decide)).mono ?_
   rintro e w7 ⟨rfl, h7, c7⟩
   have B7 := c7.blk (blk_put B6 5 (.int .i64 x6) rfl) a1
   have R7 := c7.blk (blk_far (p := ⟨w2.heap.size, 5, none⟩) R6 (Nat.ne_of_lt hbr) (.int .i64 x6)) (Nat.ne_of_gt hlt)
   have C7 := (C6.set (p := ⟨w2.heap.size, 5, none⟩) (fun h => absurd h (by show ¬ w2.heap.size < _; omega)) (.int .i64 x6)).trans c7
   clear c7 h6 B6 R6 C6 f5 z5
   have B8 := blk_put B7 6 (.int .i64 x7) rfl
   have R8 := blk_far (p := ⟨w2.heap.size, 6, none⟩) R7 (Nat.ne_of_lt hbr) (.int .i64 x7)
   have C8 := C7.set (p := ⟨w2.heap.size, 6, none⟩) (fun h => absurd h (by show ¬ w2.heap.size < _; omega)) (.int .i64 x7)
   have T8 := h7.far hl2 (i := 6) (.int .i64 x7)
   have f6 := (blk_cell B7 6).trans rfl
   have z6 := blk_frozen B7 6
   have f0 := (blk_cell B7 0).trans rfl
   have f1 := (blk_cell B7 1).trans rfl
   have f2 := (blk_cell B7 2).trans rfl
   have f3 := (blk_cell B7 3).trans rfl
   have f4 := (blk_cell B7 4).trans rfl
   have f5 := (blk_cell B7 5).trans rfl
   have r0 := (blk_cell R7 0).trans rfl
   have y0 := blk_frozen R7 0
   have r1 := (blk_cell R7 1).trans rfl
   have y1 := blk_frozen R7 1
   have r2 := (blk_cell R7 2).trans rfl
   have y2 := blk_frozen R7 2
   have r3 := (blk_cell R7 3).trans rfl
   have y3 := blk_frozen R7 3
   have r4 := (blk_cell R7 4).trans rfl
   have y4 := blk_frozen R7 4
   have r5 := (blk_cell R7 5).trans rfl
   have y5 := blk_frozen R7 5
   have r6 := (blk_cell R7 6).trans rfl
   have y6 := blk_frozen R7 6
   have a2 : w.heap.size ≠ w2.heap.size := Nat.ne_of_lt hbr
   have a3 : w2.heap.size ≠ w.heap.size := Nat.ne_of_gt hbr
   have HB8 := Aside0.mk B8; have HR8 := Aside0.mk R8; have HC8 := Aside0.mk C8; have HT8 := Aside0.mk T8
   clear B7 R7 C7 h7 B8 R8 C8 T8
   go_wp2_with (fail)
   refine bodyPost_ret (results_cell_row rfl _ _ w.heap.size 28 #[.int .i64 x1, .int .i64 x2, .bool (x3 == 1), .int .i64 x4, .int .i64 x5, .int .i64 x6, .int .i64 x7] (0, 0) _ rfl (by exact blk_put (blk_put (blk_put (blk_put (blk_put (blk_put (blk_put (HR8.out) 0 (.int .i64 x1) rfl) 1 (.int .i64 x2) rfl) 2 (.bool (x3 == 1)) rfl) 3 (.int .i64 x4) rfl) 4 (.int .i64 x5) rfl) 5 (.int .i64 x6) rfl) 6 (.int .i64 x7) rfl) Try.underlying28 rfl (by kernel_rfl)) rfl ?_
   exact ⟨rfl, Tk.far (Tk.far (Tk.far (Tk.far (Tk.far (Tk.far (Tk.far (HT8.out) hlt (i := 0) (.int .i64 x1)) hlt (i := 1) (.int .i64 x2)) hlt (i := 2) (.bool (x3 == 1))) hlt (i := 3) (.int .i64 x4)) hlt (i := 4) (.int .i64 x5)) hlt (i := 5) (.int .i64 x6)) hlt (i := 6) (.int .i64 x7), Ch.set (p := ⟨w.heap.size, 6, none⟩) (Ch.set (p := ⟨w.heap.size, 5, none⟩) (Ch.set (p := ⟨w.heap.size, 4, none⟩) (Ch.set (p := ⟨w.heap.size, 3, none⟩) (Ch.set (p := ⟨w.heap.size, 2, none⟩) (Ch.set (p := ⟨w.heap.size, 1, none⟩) (Ch.set (p := ⟨w.heap.size, 0, none⟩) (HC8.out) (fun h => absurd h (by show ¬ w.heap.size < _; omega)) (.int .i64 x1)) (fun h => absurd h (by show ¬ w.heap.size < _; omega)) (.int .i64 x2)) (fun h => absurd h (by show ¬ w.heap.size < _; omega)) (.bool (x3 == 1))) (fun h => absurd h (by show ¬ w.heap.size < _; omega)) (.int .i64 x4)) (fun h => absurd h (by show ¬ w.heap.size < _; omega)) (.int .i64 x5)) (fun h => absurd h (by show ¬ w.heap.size < _; omega)) (.int .i64 x6)) (fun h => absurd h (by show ¬ w.heap.size < _; omega)) (.int .i64 x7)⟩
 · simp only [Bool.true_or] at HT
   go_wp2_with (fail)
   refine (takeI' E4 _ HT.out (by decide)).mono ?_
   rintro e w4 ⟨rfl, h4, c4⟩
   have B4' := c4.blk (B4 (.bool true)) a1
   have R4' := c4.blk (R4 (.bool true)) (Nat.ne_of_gt hlt)
   have C4' := (C4.set (p := ⟨g, 1, none⟩) (fun _ => rfl) (.bool true)).trans c4
   clear c4 HT B4 R4 C4 fg f2 z2 zg
   have f3 := (blk_cell B4' 3).trans rfl
   have z3 := blk_frozen B4' 3
   go_wp2_with (fail)
   refine (takeI' E5 _ (h4.far hl2 (i := 3) (.int .i64 x4)) (by decide)).mono ?_
   rintro e w5 ⟨rfl, h5, c5⟩
   have B5 := c5.blk (blk_put B4' 3 (.int .i64 x4) rfl) a1
   have R5 := c5.blk (blk_far (p := ⟨w2.heap.size, 3, none⟩) R4' (Nat.ne_of_lt hbr) (.int .i64 x4)) (Nat.ne_of_gt hlt)
   have C5 := (C4'.set (p := ⟨w2.heap.size, 3, none⟩) (fun h => absurd h (by show ¬ w2.heap.size < _; omega)) (.int .i64 x4)).trans c5
   clear c5 h4 B4' R4' C4' f3 z3
   have f4 := (blk_cell B5 4).trans rfl
   have z4 := blk_frozen B5 4
   go_wp2_with (fail)
   refine (takeI' E6 _ (h5.far hl2 (i := 4) (.int .i64 x5)) (by decide)).mono ?_
   rintro e w6 ⟨rfl, h6, c6⟩
   have B6 := c6.blk (blk_put B5 4 (.int .i64 x5) rfl) a1
   have R6 := c6.blk (blk_far (p := ⟨w2.heap.size, 4, none⟩) R5 (Nat.ne_of_lt hbr) (.int .i64 x5)) (Nat.ne_of_gt hlt)
   have C6 := (C5.set (p := ⟨w2.heap.size, 4, none⟩) (fun h => absurd h (by show ¬ w2.heap.size < _; omega)) (.int .i64 x5)).trans c6
   clear c6 h5 B5 R5 C5 f4 z4
   have f5 := (blk_cell B6 5).trans rfl
   have z5 := blk_frozen B6 5
   go_wp2_with (fail)
   refine (takeI' E7 _ (h6.far hl2 (i := 5) (.int .i64 x6)) (by decide)).mono ?_
   rintro e w7 ⟨rfl, h7, c7⟩
   have B7 := c7.blk (blk_put B6 5 (.int .i64 x6) rfl) a1
   have R7 := c7.blk (blk_far (p := ⟨w2.heap.size, 5, none⟩) R6 (Nat.ne_of_lt hbr) (.int .i64 x6)) (Nat.ne_of_gt hlt)
   have C7 := (C6.set (p := ⟨w2.heap.size, 5, none⟩) (fun h => absurd h (by show ¬ w2.heap.size < _; omega)) (.int .i64 x6)).trans c7
   clear c7 h6 B6 R6 C6 f5 z5
   have B8 := blk_put B7 6 (.int .i64 x7) rfl
   have R8 := blk_far (p := ⟨w2.heap.size, 6, none⟩) R7 (Nat.ne_of_lt hbr) (.int .i64 x7)
   have C8 := C7.set (p := ⟨w2.heap.size, 6, none⟩) (fun h => absurd h (by show ¬ w2.heap.size < _; omega)) (.int .i64 x7)
   have T8 := h7.far hl2 (i := 6) (.int .i64 x7)
   have f6 := (blk_cell B7 6).trans rfl
   have z6 := blk_frozen B7 6
   have f0 := (blk_cell B7 0).trans rfl
   have f1 := (blk_cell B7 1).trans rfl
   have f2 := (blk_cell B7 2).trans rfl
   have f3 := (blk_cell B7 3).trans rfl
   have f4 := (blk_cell B7 4).trans rfl
   have f5 := (blk_cell B7 5).trans rfl
   have r0 := (blk_cell R7 0).trans rfl
   have y0 := blk_frozen R7 0
   have r1 := (blk_cell R7 1).trans rfl
   have y1 := blk_frozen R7 1
   have r2 := (blk_cell R7 2).trans rfl
   have y2 := blk_frozen R7 2
   have r3 := (blk_cell R7 3).trans rfl
   have y3 := blk_frozen R7 3
   have r4 := (blk_cell R7 4).trans rfl
   have y4 := blk_frozen R7 4
   have r5 := (blk_cell R7 5).trans rfl
   have y5 := blk_frozen R7 5
   have r6 := (blk_cell R7 6).trans rfl
   have y6 := blk_frozen R7 6
   have a2 : w.heap.size ≠ w2.heap.size := Nat.ne_of_lt hbr
   have a3 : w2.heap.size ≠ w.heap.size := Nat.ne_of_gt hbr
   have HB8 := Aside0.mk B8; have HR8 := Aside0.mk R8; have HC8 := Aside0.mk C8; have HT8 := Aside0.mk T8
   clear B7 R7 C7 h7 B8 R8 C8 T8
   go_wp2_with (fail)
   refine bodyPost_ret (results_cell_row rfl _ _ w.heap.size 28 #[.int .i64 x1, .int .i64 x2, .bool (x3 == 1), .int .i64 x4, .int .i64 x5, .int .i64 x6, .int .i64 x7] (0, 0) _ rfl (by exact blk_put (blk_put (blk_put (blk_put (blk_put (blk_put (blk_put (HR8.out) 0 (.int .i64 x1) rfl) 1 (.int .i64 x2) rfl) 2 (.bool (x3 == 1)) rfl) 3 (.int .i64 x4) rfl) 4 (.int .i64 x5) rfl) 5 (.int .i64 x6) rfl) 6 (.int .i64 x7) rfl) Try.underlying28 rfl (by kernel_rfl)) rfl ?_
   exact ⟨rfl, Tk.far (Tk.far (Tk.far (Tk.far (Tk.far (Tk.far (Tk.far (HT8.out) hlt (i := 0) (.int .i64 x1)) hlt (i := 1) (.int .i64 x2)) hlt (i := 2) (.bool (x3 == 1))) hlt (i := 3) (.int .i64 x4)) hlt (i := 4) (.int .i64 x5)) hlt (i := 5) (.int .i64 x6)) hlt (i := 6) (.int .i64 x7), Ch.set (p := ⟨w.heap.size, 6, none⟩) (Ch.set (p := ⟨w.heap.size, 5, none⟩) (Ch.set (p := ⟨w.heap.size, 4, none⟩) (Ch.set (p := ⟨w.heap.size, 3, none⟩) (Ch.set (p := ⟨w.heap.size, 2, none⟩) (Ch.set (p := ⟨w.heap.size, 1, none⟩) (Ch.set (p := ⟨w.heap.size, 0, none⟩) (HC8.out) (fun h => absurd h (by show ¬ w.heap.size < _; omega)) (.int .i64 x1)) (fun h => absurd h (by show ¬ w.heap.size < _; omega)) (.int .i64 x2)) (fun h => absurd h (by show ¬ w.heap.size < _; omega)) (.bool (x3 == 1))) (fun h => absurd h (by show ¬ w.heap.size < _; omega)) (.int .i64 x4)) (fun h => absurd h (by show ¬ w.heap.size < _; omega)) (.int .i64 x5)) (fun h => absurd h (by show ¬ w.heap.size < _; omega)) (.int .i64 x6)) (fun h => absurd h (by show ¬ w.heap.size < _; omega)) (.int .i64 x7)⟩
end Go.Proofs.Ytgikjgekdeaneaa.Wire
