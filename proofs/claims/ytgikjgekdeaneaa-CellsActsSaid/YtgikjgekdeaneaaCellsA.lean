/- The law's do and the reference's Do, by hand: way by way. -/
import Derived.Test.YtgikjgekdeaneaaCellsT
namespace Go.Proofs.Ytgikjgekdeaneaa.Cells
open Go.RowKit Go.Proofs.Ytgikjgekdeaneaa.QCellsNews Go.Proofs.YtgikjgekdeaneaaW.PrintWords Go.Proofs.YtgikjgekdeaneaaW.PrintLast Go.Proofs.YtgikjgekdeaneaaW.PrintMore
set_option linter.unusedVariables false
set_option linter.unusedSimpArgs false
theorem Cs.alloc {n g gw gl : Nat} {T : TypeId} {w : World} {ws ls : List Int} {t : Int} (h : Cs n T w g gw gl ws ls t) (o : Obj) : Cs n T (w.alloc o) g gw gl ws ls t := ⟨blk_alloc h.st o, h.wo.alloc o, h.la.alloc o, h.lo, h.ap⟩
theorem Did.boxed {n g gw gl : Nat} {T : TypeId} {w w' : World} {ws ls ws' ls' : List Int} {t t' : Int} (h : Cs n T w g gw gl ws ls t) (o : Obj) (d : Did n T (w.alloc o) w' g gw gl ws' ls' t') : Did n T w w' g gw gl ws' ls' t' := by
  have hn : n ≤ w.heap.size := Nat.le_trans h.lo.1 (Nat.le_of_lt (blk_lt h.st))
  exact ⟨d.1, ((Below.refl _ _).alloc hn o).trans d.2, Ko.trans (n := n) (Ko.of_below ((Below.refl _ _).alloc (Nat.le_refl _) o)) ((Below.refl _ _).alloc hn o) d.3⟩

set_option maxHeartbeats 8000000 in
set_option maxRecDepth 100000 in
theorem do_load_miss {n g gw gl : Nat} {ws ls : List Int} {t : Int} (who i o v : Int) (w : World) (h : Cs n 137 w g gw gl ws ls t) (hi : ¬ (0 ≤ i ∧ i < ws.length))  :
  Calls Try.prog 27 #[.pointer (some ⟨g, 0, none⟩), .agg #[.int .i64 0, .int .i64 who, .int .i64 i, .int .i64 o, .int .i64 v]] w fun e w' => e = .returned (.tuple #[.int .i64 0, .bool false]) ∧ Did n 137 w w' g gw gl ws ls t := by
 have H := Aside0.mk hi
 have h' := h.alloc (.cells #[.int .i64 0, .int .i64 who, .int .i64 i, .int .i64 o, .int .i64 v] 50)
 clear hi
 go_enter Try.func27, Try.ntmps27
 go_wp2_with (go_at_call 33; (refine (load_miss i _ h' H.out).mono ?_); rintro e w' ⟨rfl, hd⟩)
 go_ret2
 exact ⟨rfl, Did.boxed h _ (by (repeat apply Did.drewN); exact hd)⟩
set_option maxHeartbeats 8000000 in
set_option maxRecDepth 100000 in
theorem do_load_hit {n g gw gl : Nat} {ws ls : List Int} {t : Int} (who i o v : Int) (w : World) (h : Cs n 137 w g gw gl ws ls t) (hi : 0 ≤ i ∧ i < ws.length)  :
  Calls Try.prog 27 #[.pointer (some ⟨g, 0, none⟩), .agg #[.int .i64 0, .int .i64 who, .int .i64 i, .int .i64 o, .int .i64 v]] w fun e w' => e = .returned (.tuple #[.int .i64 (rd ws i), .bool false]) ∧ Did n 137 w w' g gw gl ws ls (wrap64 (t + 1)) := by
 have H := Aside0.mk hi
 have h' := h.alloc (.cells #[.int .i64 0, .int .i64 who, .int .i64 i, .int .i64 o, .int .i64 v] 50)
 clear hi
 go_enter Try.func27, Try.ntmps27
 go_wp2_with (go_at_call 33; (refine (load_hit i _ h' H.out).mono ?_); rintro e w' ⟨rfl, hd⟩)
 go_ret2
 exact ⟨rfl, Did.boxed h _ (by (repeat apply Did.drewN); exact hd)⟩
set_option maxHeartbeats 8000000 in
set_option maxRecDepth 100000 in
theorem do_store_miss {n g gw gl : Nat} {ws ls : List Int} {t : Int} (who i o v : Int) (w : World) (h : Cs n 137 w g gw gl ws ls t) (hi : ¬ (0 ≤ i ∧ i < ws.length))  :
  Calls Try.prog 27 #[.pointer (some ⟨g, 0, none⟩), .agg #[.int .i64 1, .int .i64 who, .int .i64 i, .int .i64 o, .int .i64 v]] w fun e w' => e = .returned (.tuple #[.int .i64 0, .bool false]) ∧ Did n 137 w w' g gw gl ws ls t := by
 have H := Aside0.mk hi
 have h' := h.alloc (.cells #[.int .i64 1, .int .i64 who, .int .i64 i, .int .i64 o, .int .i64 v] 50)
 clear hi
 go_enter Try.func27, Try.ntmps27
 go_wp2_with (go_at_call 32; (refine (store_miss i v _ h' H.out).mono ?_); rintro e w' ⟨rfl, hd⟩)
 go_ret2
 exact ⟨rfl, Did.boxed h _ (by (repeat apply Did.drewN); exact hd)⟩
set_option maxHeartbeats 8000000 in
set_option maxRecDepth 100000 in
theorem do_store_hit {n g gw gl : Nat} {ws ls : List Int} {t : Int} (who i o v : Int) (w : World) (h : Cs n 137 w g gw gl ws ls t) (hi : 0 ≤ i ∧ i < ws.length)  :
  Calls Try.prog 27 #[.pointer (some ⟨g, 0, none⟩), .agg #[.int .i64 1, .int .i64 who, .int .i64 i, .int .i64 o, .int .i64 v]] w fun e w' => e = .returned (.tuple #[.int .i64 0, .bool false]) ∧ Did n 137 w w' g gw gl (ws.set i.toNat v) ls (wrap64 (t + 1)) := by
 have H := Aside0.mk hi
 have h' := h.alloc (.cells #[.int .i64 1, .int .i64 who, .int .i64 i, .int .i64 o, .int .i64 v] 50)
 clear hi
 go_enter Try.func27, Try.ntmps27
 go_wp2_with (go_at_call 32; (refine (store_hit i v _ h' H.out).mono ?_); rintro e w' ⟨rfl, hd⟩)
 go_ret2
 exact ⟨rfl, Did.boxed h _ (by (repeat apply Did.drewN); exact hd)⟩
set_option maxHeartbeats 8000000 in
set_option maxRecDepth 100000 in
theorem do_swap_miss {n g gw gl : Nat} {ws ls : List Int} {t : Int} (who i o v : Int) (w : World) (h : Cs n 137 w g gw gl ws ls t) (hi : ¬ (0 ≤ i ∧ i < ws.length))  :
  Calls Try.prog 27 #[.pointer (some ⟨g, 0, none⟩), .agg #[.int .i64 2, .int .i64 who, .int .i64 i, .int .i64 o, .int .i64 v]] w fun e w' => e = .returned (.tuple #[.int .i64 0, .bool false]) ∧ Did n 137 w w' g gw gl ws ls t := by
 have H := Aside0.mk hi
 have h' := h.alloc (.cells #[.int .i64 2, .int .i64 who, .int .i64 i, .int .i64 o, .int .i64 v] 50)
 clear hi
 go_enter Try.func27, Try.ntmps27
 go_wp2_with (go_at_call 34; (refine (swap_miss i o v _ h' H.out).mono ?_); rintro e w' ⟨rfl, hd⟩)
 go_ret2
 exact ⟨rfl, Did.boxed h _ (by (repeat apply Did.drewN); exact hd)⟩
set_option maxHeartbeats 8000000 in
set_option maxRecDepth 100000 in
theorem do_swap_no {n g gw gl : Nat} {ws ls : List Int} {t : Int} (who i o v : Int) (w : World) (h : Cs n 137 w g gw gl ws ls t) (hi : 0 ≤ i ∧ i < ws.length) (hn : rd ws i ≠ o) :
  Calls Try.prog 27 #[.pointer (some ⟨g, 0, none⟩), .agg #[.int .i64 2, .int .i64 who, .int .i64 i, .int .i64 o, .int .i64 v]] w fun e w' => e = .returned (.tuple #[.int .i64 0, .bool false]) ∧ Did n 137 w w' g gw gl ws ls (wrap64 (t + 1)) := by
 have H := Aside0.mk hi
 have h' := h.alloc (.cells #[.int .i64 2, .int .i64 who, .int .i64 i, .int .i64 o, .int .i64 v] 50)
 have Hn := Aside0.mk hn
 clear hi hn
 go_enter Try.func27, Try.ntmps27
 go_wp2_with (go_at_call 34; (refine (swap_no i o v _ h' H.out Hn.out).mono ?_); rintro e w' ⟨rfl, hd⟩)
 go_ret2
 exact ⟨rfl, Did.boxed h _ (by (repeat apply Did.drewN); exact hd)⟩
set_option maxHeartbeats 8000000 in
set_option maxRecDepth 100000 in
theorem do_swap_yes {n g gw gl : Nat} {ws ls : List Int} {t : Int} (who i o v : Int) (w : World) (h : Cs n 137 w g gw gl ws ls t) (hi : 0 ≤ i ∧ i < ws.length) (hn : rd ws i = o) :
  Calls Try.prog 27 #[.pointer (some ⟨g, 0, none⟩), .agg #[.int .i64 2, .int .i64 who, .int .i64 i, .int .i64 o, .int .i64 v]] w fun e w' => e = .returned (.tuple #[.int .i64 0, .bool true]) ∧ Did n 137 w w' g gw gl (ws.set i.toNat v) ls (wrap64 (t + 1)) := by
 have H := Aside0.mk hi
 have h' := h.alloc (.cells #[.int .i64 2, .int .i64 who, .int .i64 i, .int .i64 o, .int .i64 v] 50)
 have Hn := Aside0.mk hn
 clear hi hn
 go_enter Try.func27, Try.ntmps27
 go_wp2_with (go_at_call 34; (refine (swap_yes i o v _ h' H.out Hn.out).mono ?_); rintro e w' ⟨rfl, hd⟩)
 go_ret2
 exact ⟨rfl, Did.boxed h _ (by (repeat apply Did.drewN); exact hd)⟩
set_option maxHeartbeats 8000000 in
set_option maxRecDepth 100000 in
theorem do_take_miss {n g gw gl : Nat} {ws ls : List Int} {t : Int} (who i o v : Int) (w : World) (h : Cs n 137 w g gw gl ws ls t) (hi : ¬ (0 ≤ who ∧ 0 ≤ i ∧ i < ls.length))  :
  Calls Try.prog 27 #[.pointer (some ⟨g, 0, none⟩), .agg #[.int .i64 3, .int .i64 who, .int .i64 i, .int .i64 o, .int .i64 v]] w fun e w' => e = .returned (.tuple #[.int .i64 0, .bool false]) ∧ Did n 137 w w' g gw gl ws ls t := by
 have H := Aside0.mk hi
 have h' := h.alloc (.cells #[.int .i64 3, .int .i64 who, .int .i64 i, .int .i64 o, .int .i64 v] 50)
 clear hi
 go_enter Try.func27, Try.ntmps27
 go_wp2_with (go_at_call 35; (refine (take_miss who i _ h' H.out).mono ?_); rintro e w' ⟨rfl, hd⟩)
 go_ret2
 exact ⟨rfl, Did.boxed h _ (by (repeat apply Did.drewN); exact hd)⟩
set_option maxHeartbeats 8000000 in
set_option maxRecDepth 100000 in
theorem do_take_no {n g gw gl : Nat} {ws ls : List Int} {t : Int} (who i o v : Int) (w : World) (h : Cs n 137 w g gw gl ws ls t) (hi : 0 ≤ who ∧ 0 ≤ i ∧ i < ls.length) (hn : rd ls i ≠ (-1)) :
  Calls Try.prog 27 #[.pointer (some ⟨g, 0, none⟩), .agg #[.int .i64 3, .int .i64 who, .int .i64 i, .int .i64 o, .int .i64 v]] w fun e w' => e = .returned (.tuple #[.int .i64 0, .bool false]) ∧ Did n 137 w w' g gw gl ws ls (wrap64 (t + 1)) := by
 have H := Aside0.mk hi
 have h' := h.alloc (.cells #[.int .i64 3, .int .i64 who, .int .i64 i, .int .i64 o, .int .i64 v] 50)
 have Hn := Aside0.mk hn
 clear hi hn
 go_enter Try.func27, Try.ntmps27
 go_wp2_with (go_at_call 35; (refine (take_no who i _ h' H.out Hn.out).mono ?_); rintro e w' ⟨rfl, hd⟩)
 go_ret2
 exact ⟨rfl, Did.boxed h _ (by (repeat apply Did.drewN); exact hd)⟩
set_option maxHeartbeats 8000000 in
set_option maxRecDepth 100000 in
theorem do_take_yes {n g gw gl : Nat} {ws ls : List Int} {t : Int} (who i o v : Int) (w : World) (h : Cs n 137 w g gw gl ws ls t) (hi : 0 ≤ who ∧ 0 ≤ i ∧ i < ls.length) (hn : rd ls i = (-1)) :
  Calls Try.prog 27 #[.pointer (some ⟨g, 0, none⟩), .agg #[.int .i64 3, .int .i64 who, .int .i64 i, .int .i64 o, .int .i64 v]] w fun e w' => e = .returned (.tuple #[.int .i64 0, .bool true]) ∧ Did n 137 w w' g gw gl ws (ls.set i.toNat who) (wrap64 (t + 1)) := by
 have H := Aside0.mk hi
 have h' := h.alloc (.cells #[.int .i64 3, .int .i64 who, .int .i64 i, .int .i64 o, .int .i64 v] 50)
 have Hn := Aside0.mk hn
 clear hi hn
 go_enter Try.func27, Try.ntmps27
 go_wp2_with (go_at_call 35; (refine (take_yes who i _ h' H.out Hn.out).mono ?_); rintro e w' ⟨rfl, hd⟩)
 go_ret2
 exact ⟨rfl, Did.boxed h _ (by (repeat apply Did.drewN); exact hd)⟩
set_option maxHeartbeats 8000000 in
set_option maxRecDepth 100000 in
theorem do_free_miss {n g gw gl : Nat} {ws ls : List Int} {t : Int} (who i o v : Int) (w : World) (h : Cs n 137 w g gw gl ws ls t) (hi : ¬ (0 ≤ who ∧ 0 ≤ i ∧ i < ls.length))  :
  Calls Try.prog 27 #[.pointer (some ⟨g, 0, none⟩), .agg #[.int .i64 4, .int .i64 who, .int .i64 i, .int .i64 o, .int .i64 v]] w fun e w' => e = .returned (.tuple #[.int .i64 0, .bool false]) ∧ Did n 137 w w' g gw gl ws ls t := by
 have H := Aside0.mk hi
 have h' := h.alloc (.cells #[.int .i64 4, .int .i64 who, .int .i64 i, .int .i64 o, .int .i64 v] 50)
 clear hi
 go_enter Try.func27, Try.ntmps27
 go_wp2_with (go_at_call 36; (refine (free_miss who i _ h' H.out).mono ?_); rintro e w' ⟨rfl, hd⟩)
 go_ret2
 exact ⟨rfl, Did.boxed h _ (by (repeat apply Did.drewN); exact hd)⟩
set_option maxHeartbeats 8000000 in
set_option maxRecDepth 100000 in
theorem do_free_no {n g gw gl : Nat} {ws ls : List Int} {t : Int} (who i o v : Int) (w : World) (h : Cs n 137 w g gw gl ws ls t) (hi : 0 ≤ who ∧ 0 ≤ i ∧ i < ls.length) (hn : rd ls i ≠ who) :
  Calls Try.prog 27 #[.pointer (some ⟨g, 0, none⟩), .agg #[.int .i64 4, .int .i64 who, .int .i64 i, .int .i64 o, .int .i64 v]] w fun e w' => e = .returned (.tuple #[.int .i64 0, .bool false]) ∧ Did n 137 w w' g gw gl ws ls (wrap64 (t + 1)) := by
 have H := Aside0.mk hi
 have h' := h.alloc (.cells #[.int .i64 4, .int .i64 who, .int .i64 i, .int .i64 o, .int .i64 v] 50)
 have Hn := Aside0.mk hn
 clear hi hn
 go_enter Try.func27, Try.ntmps27
 go_wp2_with (go_at_call 36; (refine (free_no who i _ h' H.out Hn.out).mono ?_); rintro e w' ⟨rfl, hd⟩)
 go_ret2
 exact ⟨rfl, Did.boxed h _ (by (repeat apply Did.drewN); exact hd)⟩
set_option maxHeartbeats 8000000 in
set_option maxRecDepth 100000 in
theorem do_free_yes {n g gw gl : Nat} {ws ls : List Int} {t : Int} (who i o v : Int) (w : World) (h : Cs n 137 w g gw gl ws ls t) (hi : 0 ≤ who ∧ 0 ≤ i ∧ i < ls.length) (hn : rd ls i = who) :
  Calls Try.prog 27 #[.pointer (some ⟨g, 0, none⟩), .agg #[.int .i64 4, .int .i64 who, .int .i64 i, .int .i64 o, .int .i64 v]] w fun e w' => e = .returned (.tuple #[.int .i64 0, .bool true]) ∧ Did n 137 w w' g gw gl ws (ls.set i.toNat (-1)) (wrap64 (t + 1)) := by
 have H := Aside0.mk hi
 have h' := h.alloc (.cells #[.int .i64 4, .int .i64 who, .int .i64 i, .int .i64 o, .int .i64 v] 50)
 have Hn := Aside0.mk hn
 clear hi hn
 go_enter Try.func27, Try.ntmps27
 go_wp2_with (go_at_call 36; (refine (free_yes who i _ h' H.out Hn.out).mono ?_); rintro e w' ⟨rfl, hd⟩)
 go_ret2
 exact ⟨rfl, Did.boxed h _ (by (repeat apply Did.drewN); exact hd)⟩
set_option maxHeartbeats 8000000 in
set_option maxRecDepth 100000 in
theorem ref_load_miss {n g gw gl : Nat} {ws ls : List Int} {t : Int} (who i o v : Int) (w : World) (h : Cs n 59 w g gw gl ws ls t) (hi : ¬ (0 ≤ i ∧ i < ws.length))  :
  Calls Try.prog 28 #[.pointer (some ⟨g, 0, none⟩), .int .i64 0, .int .i64 who, .int .i64 i, .int .i64 o, .int .i64 v] w fun e w' => e = .returned (.tuple #[.int .i64 0, .bool false]) ∧ Did n 59 w w' g gw gl ws ls t := by
 have f0 := (blk_cell h.st 0).trans rfl
 have f1 := (blk_cell h.st 1).trans rfl
 have f2 := (blk_cell h.st 2).trans rfl
 have z2 := blk_frozen h.st 2
 by_cases c0 : i < 0
 · have c0b := decide_eq_true c0
   go_enter Try.func28, Try.ntmps28
   go_wp2
   go_ret2
   exact ⟨rfl, by (repeat apply Did.drewN); exact Did.refl h⟩
 · have c0b := decide_eq_false c0
   have c1b := decide_eq_true (show (ws.length : Int) ≤ i by omega)
   go_enter Try.func28, Try.ntmps28
   go_wp2
   go_ret2
   exact ⟨rfl, by (repeat apply Did.drewN); exact Did.refl h⟩
set_option maxHeartbeats 8000000 in
set_option maxRecDepth 100000 in
theorem ref_load_hit {n g gw gl : Nat} {ws ls : List Int} {t : Int} (who i o v : Int) (w : World) (h : Cs n 59 w g gw gl ws ls t) (hi : 0 ≤ i ∧ i < ws.length)  :
  Calls Try.prog 28 #[.pointer (some ⟨g, 0, none⟩), .int .i64 0, .int .i64 who, .int .i64 i, .int .i64 o, .int .i64 v] w fun e w' => e = .returned (.tuple #[.int .i64 (rd ws i), .bool false]) ∧ Did n 59 w w' g gw gl ws ls (wrap64 (t + 1)) := by
 have f0 := (blk_cell h.st 0).trans rfl
 have f1 := (blk_cell h.st 1).trans rfl
 have f2 := (blk_cell h.st 2).trans rfl
 have z2 := blk_frozen h.st 2
 have c0b := decide_eq_false (show ¬ i < 0 by omega)
 have c1b := decide_eq_false (show ¬ (ws.length : Int) ≤ i by omega)
 have f3 := h.wo.at i hi.1 hi.2
 have z3 := h.wo.fz i.toNat
 have a0 : g ≠ gw := h.ap.1
 have a1 : gw ≠ g := Ne.symm a0
 have p0 := eq_true hi.1
 have p1 := eq_true hi.2
 clear hi
 go_enter Try.func28, Try.ntmps28
 go_wp2
 go_ret2
 exact ⟨rfl, by (repeat apply Did.drewN); exact (Did.refl h).tick _⟩
set_option maxHeartbeats 8000000 in
set_option maxRecDepth 100000 in
theorem ref_store_miss {n g gw gl : Nat} {ws ls : List Int} {t : Int} (who i o v : Int) (w : World) (h : Cs n 59 w g gw gl ws ls t) (hi : ¬ (0 ≤ i ∧ i < ws.length))  :
  Calls Try.prog 28 #[.pointer (some ⟨g, 0, none⟩), .int .i64 1, .int .i64 who, .int .i64 i, .int .i64 o, .int .i64 v] w fun e w' => e = .returned (.tuple #[.int .i64 0, .bool false]) ∧ Did n 59 w w' g gw gl ws ls t := by
 have f0 := (blk_cell h.st 0).trans rfl
 have f1 := (blk_cell h.st 1).trans rfl
 have f2 := (blk_cell h.st 2).trans rfl
 have z2 := blk_frozen h.st 2
 by_cases c0 : i < 0
 · have c0b := decide_eq_true c0
   go_enter Try.func28, Try.ntmps28
   go_wp2
   go_ret2
   exact ⟨rfl, by (repeat apply Did.drewN); exact Did.refl h⟩
 · have c0b := decide_eq_false c0
   have c1b := decide_eq_true (show (ws.length : Int) ≤ i by omega)
   go_enter Try.func28, Try.ntmps28
   go_wp2
   go_ret2
   exact ⟨rfl, by (repeat apply Did.drewN); exact Did.refl h⟩
set_option maxHeartbeats 8000000 in
set_option maxRecDepth 100000 in
theorem ref_store_hit {n g gw gl : Nat} {ws ls : List Int} {t : Int} (who i o v : Int) (w : World) (h : Cs n 59 w g gw gl ws ls t) (hi : 0 ≤ i ∧ i < ws.length)  :
  Calls Try.prog 28 #[.pointer (some ⟨g, 0, none⟩), .int .i64 1, .int .i64 who, .int .i64 i, .int .i64 o, .int .i64 v] w fun e w' => e = .returned (.tuple #[.int .i64 0, .bool false]) ∧ Did n 59 w w' g gw gl (ws.set i.toNat v) ls (wrap64 (t + 1)) := by
 have f0 := (blk_cell h.st 0).trans rfl
 have f1 := (blk_cell h.st 1).trans rfl
 have f2 := (blk_cell h.st 2).trans rfl
 have z2 := blk_frozen h.st 2
 have c0b := decide_eq_false (show ¬ i < 0 by omega)
 have c1b := decide_eq_false (show ¬ (ws.length : Int) ≤ i by omega)
 have f3 := h.wo.at i hi.1 hi.2
 have z3 := h.wo.fz i.toNat
 have a0 : g ≠ gw := h.ap.1
 have a1 : gw ≠ g := Ne.symm a0
 have p0 := eq_true hi.1
 have p1 := eq_true hi.2
 clear hi
 go_enter Try.func28, Try.ntmps28
 go_wp2
 go_ret2
 exact ⟨rfl, by (repeat apply Did.drewN); exact ((Did.refl h).tick _).word _ _⟩
set_option maxHeartbeats 8000000 in
set_option maxRecDepth 100000 in
theorem ref_swap_miss {n g gw gl : Nat} {ws ls : List Int} {t : Int} (who i o v : Int) (w : World) (h : Cs n 59 w g gw gl ws ls t) (hi : ¬ (0 ≤ i ∧ i < ws.length))  :
  Calls Try.prog 28 #[.pointer (some ⟨g, 0, none⟩), .int .i64 2, .int .i64 who, .int .i64 i, .int .i64 o, .int .i64 v] w fun e w' => e = .returned (.tuple #[.int .i64 0, .bool false]) ∧ Did n 59 w w' g gw gl ws ls t := by
 have f0 := (blk_cell h.st 0).trans rfl
 have f1 := (blk_cell h.st 1).trans rfl
 have f2 := (blk_cell h.st 2).trans rfl
 have z2 := blk_frozen h.st 2
 by_cases c0 : i < 0
 · have c0b := decide_eq_true c0
   go_enter Try.func28, Try.ntmps28
   go_wp2
   go_ret2
   exact ⟨rfl, by (repeat apply Did.drewN); exact Did.refl h⟩
 · have c0b := decide_eq_false c0
   have c1b := decide_eq_true (show (ws.length : Int) ≤ i by omega)
   go_enter Try.func28, Try.ntmps28
   go_wp2
   go_ret2
   exact ⟨rfl, by (repeat apply Did.drewN); exact Did.refl h⟩
set_option maxHeartbeats 8000000 in
set_option maxRecDepth 100000 in
theorem ref_swap_no {n g gw gl : Nat} {ws ls : List Int} {t : Int} (who i o v : Int) (w : World) (h : Cs n 59 w g gw gl ws ls t) (hi : 0 ≤ i ∧ i < ws.length) (hn : rd ws i ≠ o) :
  Calls Try.prog 28 #[.pointer (some ⟨g, 0, none⟩), .int .i64 2, .int .i64 who, .int .i64 i, .int .i64 o, .int .i64 v] w fun e w' => e = .returned (.tuple #[.int .i64 0, .bool false]) ∧ Did n 59 w w' g gw gl ws ls (wrap64 (t + 1)) := by
 have f0 := (blk_cell h.st 0).trans rfl
 have f1 := (blk_cell h.st 1).trans rfl
 have f2 := (blk_cell h.st 2).trans rfl
 have z2 := blk_frozen h.st 2
 have c0b := decide_eq_false (show ¬ i < 0 by omega)
 have c1b := decide_eq_false (show ¬ (ws.length : Int) ≤ i by omega)
 have b0 : (rd ws i != o) = true := bne_iff_ne.mpr hn
 have b1 : (rd ws i == o) = false := beq_eq_false_iff_ne.mpr hn
 clear hn
 have f3 := h.wo.at i hi.1 hi.2
 have z3 := h.wo.fz i.toNat
 have a0 : g ≠ gw := h.ap.1
 have a1 : gw ≠ g := Ne.symm a0
 have p0 := eq_true hi.1
 have p1 := eq_true hi.2
 clear hi
 go_enter Try.func28, Try.ntmps28
 go_wp2
 go_ret2
 exact ⟨rfl, by (repeat apply Did.drewN); exact (Did.refl h).tick _⟩
set_option maxHeartbeats 8000000 in
set_option maxRecDepth 100000 in
theorem ref_swap_yes {n g gw gl : Nat} {ws ls : List Int} {t : Int} (who i o v : Int) (w : World) (h : Cs n 59 w g gw gl ws ls t) (hi : 0 ≤ i ∧ i < ws.length) (hn : rd ws i = o) :
  Calls Try.prog 28 #[.pointer (some ⟨g, 0, none⟩), .int .i64 2, .int .i64 who, .int .i64 i, .int .i64 o, .int .i64 v] w fun e w' => e = .returned (.tuple #[.int .i64 0, .bool true]) ∧ Did n 59 w w' g gw gl (ws.set i.toNat v) ls (wrap64 (t + 1)) := by
 have f0 := (blk_cell h.st 0).trans rfl
 have f1 := (blk_cell h.st 1).trans rfl
 have f2 := (blk_cell h.st 2).trans rfl
 have z2 := blk_frozen h.st 2
 have c0b := decide_eq_false (show ¬ i < 0 by omega)
 have c1b := decide_eq_false (show ¬ (ws.length : Int) ≤ i by omega)
 have b0 : (rd ws i != o) = false := bne_eq_false_iff_eq.mpr hn
 have b1 : (rd ws i == o) = true := beq_iff_eq.mpr hn
 clear hn
 have f3 := h.wo.at i hi.1 hi.2
 have z3 := h.wo.fz i.toNat
 have a0 : g ≠ gw := h.ap.1
 have a1 : gw ≠ g := Ne.symm a0
 have p0 := eq_true hi.1
 have p1 := eq_true hi.2
 clear hi
 go_enter Try.func28, Try.ntmps28
 go_wp2
 go_ret2
 exact ⟨rfl, by (repeat apply Did.drewN); exact ((Did.refl h).tick _).word _ _⟩
set_option maxHeartbeats 8000000 in
set_option maxRecDepth 100000 in
theorem ref_take_miss {n g gw gl : Nat} {ws ls : List Int} {t : Int} (who i o v : Int) (w : World) (h : Cs n 59 w g gw gl ws ls t) (hi : ¬ (0 ≤ who ∧ 0 ≤ i ∧ i < ls.length))  :
  Calls Try.prog 28 #[.pointer (some ⟨g, 0, none⟩), .int .i64 3, .int .i64 who, .int .i64 i, .int .i64 o, .int .i64 v] w fun e w' => e = .returned (.tuple #[.int .i64 0, .bool false]) ∧ Did n 59 w w' g gw gl ws ls t := by
 have f0 := (blk_cell h.st 0).trans rfl
 have f1 := (blk_cell h.st 1).trans rfl
 have f2 := (blk_cell h.st 2).trans rfl
 have z2 := blk_frozen h.st 2
 by_cases c0 : i < 0
 · have c0b := decide_eq_true c0
   go_enter Try.func28, Try.ntmps28
   go_wp2
   go_ret2
   exact ⟨rfl, by (repeat apply Did.drewN); exact Did.refl h⟩
 · have c0b := decide_eq_false c0
   by_cases c1 : (ls.length : Int) ≤ i
   · have c1b := decide_eq_true c1
     go_enter Try.func28, Try.ntmps28
     go_wp2
     go_ret2
     exact ⟨rfl, by (repeat apply Did.drewN); exact Did.refl h⟩
   · have c1b := decide_eq_false c1
     have c2b := decide_eq_true (show who < 0 by omega)
     go_enter Try.func28, Try.ntmps28
     go_wp2
     go_ret2
     exact ⟨rfl, by (repeat apply Did.drewN); exact Did.refl h⟩
set_option maxHeartbeats 8000000 in
set_option maxRecDepth 100000 in
theorem ref_take_no {n g gw gl : Nat} {ws ls : List Int} {t : Int} (who i o v : Int) (w : World) (h : Cs n 59 w g gw gl ws ls t) (hi : 0 ≤ who ∧ 0 ≤ i ∧ i < ls.length) (hn : rd ls i ≠ (-1)) :
  Calls Try.prog 28 #[.pointer (some ⟨g, 0, none⟩), .int .i64 3, .int .i64 who, .int .i64 i, .int .i64 o, .int .i64 v] w fun e w' => e = .returned (.tuple #[.int .i64 0, .bool false]) ∧ Did n 59 w w' g gw gl ws ls (wrap64 (t + 1)) := by
 have f0 := (blk_cell h.st 0).trans rfl
 have f1 := (blk_cell h.st 1).trans rfl
 have f2 := (blk_cell h.st 2).trans rfl
 have z2 := blk_frozen h.st 2
 have c0b := decide_eq_false (show ¬ i < 0 by omega)
 have c1b := decide_eq_false (show ¬ (ls.length : Int) ≤ i by omega)
 have c2b := decide_eq_false (show ¬ who < 0 by omega)
 have b0 : (rd ls i != (-1)) = true := bne_iff_ne.mpr hn
 have b1 : (rd ls i == (-1)) = false := beq_eq_false_iff_ne.mpr hn
 clear hn
 have f3 := h.la.at i hi.2.1 hi.2.2
 have z3 := h.la.fz i.toNat
 have a0 : g ≠ gl := h.ap.2.1
 have a1 : gl ≠ g := Ne.symm a0
 have p0 := eq_true hi.2.1
 have p1 := eq_true hi.2.2
 clear hi
 go_enter Try.func28, Try.ntmps28
 go_wp2
 go_ret2
 exact ⟨rfl, by (repeat apply Did.drewN); exact (Did.refl h).tick _⟩
set_option maxHeartbeats 8000000 in
set_option maxRecDepth 100000 in
theorem ref_take_yes {n g gw gl : Nat} {ws ls : List Int} {t : Int} (who i o v : Int) (w : World) (h : Cs n 59 w g gw gl ws ls t) (hi : 0 ≤ who ∧ 0 ≤ i ∧ i < ls.length) (hn : rd ls i = (-1)) :
  Calls Try.prog 28 #[.pointer (some ⟨g, 0, none⟩), .int .i64 3, .int .i64 who, .int .i64 i, .int .i64 o, .int .i64 v] w fun e w' => e = .returned (.tuple #[.int .i64 0, .bool true]) ∧ Did n 59 w w' g gw gl ws (ls.set i.toNat who) (wrap64 (t + 1)) := by
 have f0 := (blk_cell h.st 0).trans rfl
 have f1 := (blk_cell h.st 1).trans rfl
 have f2 := (blk_cell h.st 2).trans rfl
 have z2 := blk_frozen h.st 2
 have c0b := decide_eq_false (show ¬ i < 0 by omega)
 have c1b := decide_eq_false (show ¬ (ls.length : Int) ≤ i by omega)
 have c2b := decide_eq_false (show ¬ who < 0 by omega)
 have b0 : (rd ls i != (-1)) = false := bne_eq_false_iff_eq.mpr hn
 have b1 : (rd ls i == (-1)) = true := beq_iff_eq.mpr hn
 clear hn
 have f3 := h.la.at i hi.2.1 hi.2.2
 have z3 := h.la.fz i.toNat
 have a0 : g ≠ gl := h.ap.2.1
 have a1 : gl ≠ g := Ne.symm a0
 have p0 := eq_true hi.2.1
 have p1 := eq_true hi.2.2
 clear hi
 go_enter Try.func28, Try.ntmps28
 go_wp2
 go_ret2
 exact ⟨rfl, by (repeat apply Did.drewN); exact ((Did.refl h).tick _).latch _ _⟩
set_option maxHeartbeats 8000000 in
set_option maxRecDepth 100000 in
theorem ref_free_miss {n g gw gl : Nat} {ws ls : List Int} {t : Int} (who i o v : Int) (w : World) (h : Cs n 59 w g gw gl ws ls t) (hi : ¬ (0 ≤ who ∧ 0 ≤ i ∧ i < ls.length))  :
  Calls Try.prog 28 #[.pointer (some ⟨g, 0, none⟩), .int .i64 4, .int .i64 who, .int .i64 i, .int .i64 o, .int .i64 v] w fun e w' => e = .returned (.tuple #[.int .i64 0, .bool false]) ∧ Did n 59 w w' g gw gl ws ls t := by
 have f0 := (blk_cell h.st 0).trans rfl
 have f1 := (blk_cell h.st 1).trans rfl
 have f2 := (blk_cell h.st 2).trans rfl
 have z2 := blk_frozen h.st 2
 by_cases c0 : i < 0
 · have c0b := decide_eq_true c0
   go_enter Try.func28, Try.ntmps28
   go_wp2
   go_ret2
   exact ⟨rfl, by (repeat apply Did.drewN); exact Did.refl h⟩
 · have c0b := decide_eq_false c0
   by_cases c1 : (ls.length : Int) ≤ i
   · have c1b := decide_eq_true c1
     go_enter Try.func28, Try.ntmps28
     go_wp2
     go_ret2
     exact ⟨rfl, by (repeat apply Did.drewN); exact Did.refl h⟩
   · have c1b := decide_eq_false c1
     have c2b := decide_eq_true (show who < 0 by omega)
     go_enter Try.func28, Try.ntmps28
     go_wp2
     go_ret2
     exact ⟨rfl, by (repeat apply Did.drewN); exact Did.refl h⟩
set_option maxHeartbeats 8000000 in
set_option maxRecDepth 100000 in
theorem ref_free_no {n g gw gl : Nat} {ws ls : List Int} {t : Int} (who i o v : Int) (w : World) (h : Cs n 59 w g gw gl ws ls t) (hi : 0 ≤ who ∧ 0 ≤ i ∧ i < ls.length) (hn : rd ls i ≠ who) :
  Calls Try.prog 28 #[.pointer (some ⟨g, 0, none⟩), .int .i64 4, .int .i64 who, .int .i64 i, .int .i64 o, .int .i64 v] w fun e w' => e = .returned (.tuple #[.int .i64 0, .bool false]) ∧ Did n 59 w w' g gw gl ws ls (wrap64 (t + 1)) := by
 have f0 := (blk_cell h.st 0).trans rfl
 have f1 := (blk_cell h.st 1).trans rfl
 have f2 := (blk_cell h.st 2).trans rfl
 have z2 := blk_frozen h.st 2
 have c0b := decide_eq_false (show ¬ i < 0 by omega)
 have c1b := decide_eq_false (show ¬ (ls.length : Int) ≤ i by omega)
 have c2b := decide_eq_false (show ¬ who < 0 by omega)
 have b0 : (rd ls i != who) = true := bne_iff_ne.mpr hn
 have b1 : (rd ls i == who) = false := beq_eq_false_iff_ne.mpr hn
 clear hn
 have f3 := h.la.at i hi.2.1 hi.2.2
 have z3 := h.la.fz i.toNat
 have a0 : g ≠ gl := h.ap.2.1
 have a1 : gl ≠ g := Ne.symm a0
 have p0 := eq_true hi.2.1
 have p1 := eq_true hi.2.2
 clear hi
 go_enter Try.func28, Try.ntmps28
 go_wp2
 go_ret2
 exact ⟨rfl, by (repeat apply Did.drewN); exact (Did.refl h).tick _⟩
set_option maxHeartbeats 8000000 in
set_option maxRecDepth 100000 in
theorem ref_free_yes {n g gw gl : Nat} {ws ls : List Int} {t : Int} (who i o v : Int) (w : World) (h : Cs n 59 w g gw gl ws ls t) (hi : 0 ≤ who ∧ 0 ≤ i ∧ i < ls.length) (hn : rd ls i = who) :
  Calls Try.prog 28 #[.pointer (some ⟨g, 0, none⟩), .int .i64 4, .int .i64 who, .int .i64 i, .int .i64 o, .int .i64 v] w fun e w' => e = .returned (.tuple #[.int .i64 0, .bool true]) ∧ Did n 59 w w' g gw gl ws (ls.set i.toNat (-1)) (wrap64 (t + 1)) := by
 have f0 := (blk_cell h.st 0).trans rfl
 have f1 := (blk_cell h.st 1).trans rfl
 have f2 := (blk_cell h.st 2).trans rfl
 have z2 := blk_frozen h.st 2
 have c0b := decide_eq_false (show ¬ i < 0 by omega)
 have c1b := decide_eq_false (show ¬ (ls.length : Int) ≤ i by omega)
 have c2b := decide_eq_false (show ¬ who < 0 by omega)
 have b0 : (rd ls i != who) = false := bne_eq_false_iff_eq.mpr hn
 have b1 : (rd ls i == who) = true := beq_iff_eq.mpr hn
 clear hn
 have f3 := h.la.at i hi.2.1 hi.2.2
 have z3 := h.la.fz i.toNat
 have a0 : g ≠ gl := h.ap.2.1
 have a1 : gl ≠ g := Ne.symm a0
 have p0 := eq_true hi.2.1
 have p1 := eq_true hi.2.2
 clear hi
 go_enter Try.func28, Try.ntmps28
 go_wp2
 go_ret2
 exact ⟨rfl, by (repeat apply Did.drewN); exact ((Did.refl h).tick _).latch _ _⟩
/-- What an access does, for both alike. -/
def Both (k who i o v : Int) (ws ls : List Int) (t : Int) (x : Int) (b : Bool) (ws' ls' : List Int) (t' : Int) : Prop :=
  (ws'.length = ws.length ∧ ls'.length = ls.length) ∧
  (∀ n g gw gl w, Cs n 137 w g gw gl ws ls t → Calls Try.prog 27 #[.pointer (some ⟨g, 0, none⟩), .agg #[.int .i64 k, .int .i64 who, .int .i64 i, .int .i64 o, .int .i64 v]] w fun e w' => e = .returned (.tuple #[.int .i64 x, .bool b]) ∧ Did n 137 w w' g gw gl ws' ls' t') ∧
  (∀ n g gw gl w, Cs n 59 w g gw gl ws ls t → Calls Try.prog 28 #[.pointer (some ⟨g, 0, none⟩), .int .i64 k, .int .i64 who, .int .i64 i, .int .i64 o, .int .i64 v] w fun e w' => e = .returned (.tuple #[.int .i64 x, .bool b]) ∧ Did n 59 w w' g gw gl ws' ls' t')
theorem both (k who i o v : Int) (hk : 0 ≤ k ∧ k < 5) (ws ls : List Int) (t : Int) : ∃ x b ws' ls' t', Both k who i o v ws ls t x b ws' ls' t' := by
  have hk5 : k = 0 ∨ k = 1 ∨ k = 2 ∨ k = 3 ∨ k = 4 := by omega
  rcases hk5 with rfl | rfl | rfl | rfl | rfl
  · by_cases hi : 0 ≤ i ∧ i < ws.length
    · exact ⟨_, _, _, _, _, by simp, fun n g gw gl w h => do_load_hit who i o v w h hi, fun n g gw gl w h => ref_load_hit who i o v w h hi⟩
    · exact ⟨_, _, _, _, _, by simp, fun n g gw gl w h => do_load_miss who i o v w h hi, fun n g gw gl w h => ref_load_miss who i o v w h hi⟩
  · by_cases hi : 0 ≤ i ∧ i < ws.length
    · exact ⟨_, _, _, _, _, by simp, fun n g gw gl w h => do_store_hit who i o v w h hi, fun n g gw gl w h => ref_store_hit who i o v w h hi⟩
    · exact ⟨_, _, _, _, _, by simp, fun n g gw gl w h => do_store_miss who i o v w h hi, fun n g gw gl w h => ref_store_miss who i o v w h hi⟩
  · by_cases hi : 0 ≤ i ∧ i < ws.length
    · by_cases hn : rd ws i = o
      · exact ⟨_, _, _, _, _, by simp, fun n g gw gl w h => do_swap_yes who i o v w h hi hn, fun n g gw gl w h => ref_swap_yes who i o v w h hi hn⟩
      · exact ⟨_, _, _, _, _, by simp, fun n g gw gl w h => do_swap_no who i o v w h hi hn, fun n g gw gl w h => ref_swap_no who i o v w h hi hn⟩
    · exact ⟨_, _, _, _, _, by simp, fun n g gw gl w h => do_swap_miss who i o v w h hi, fun n g gw gl w h => ref_swap_miss who i o v w h hi⟩
  · by_cases hi : 0 ≤ who ∧ 0 ≤ i ∧ i < ls.length
    · by_cases hn : rd ls i = -1
      · exact ⟨_, _, _, _, _, by simp, fun n g gw gl w h => do_take_yes who i o v w h hi hn, fun n g gw gl w h => ref_take_yes who i o v w h hi hn⟩
      · exact ⟨_, _, _, _, _, by simp, fun n g gw gl w h => do_take_no who i o v w h hi hn, fun n g gw gl w h => ref_take_no who i o v w h hi hn⟩
    · exact ⟨_, _, _, _, _, by simp, fun n g gw gl w h => do_take_miss who i o v w h hi, fun n g gw gl w h => ref_take_miss who i o v w h hi⟩
  · by_cases hi : 0 ≤ who ∧ 0 ≤ i ∧ i < ls.length
    · by_cases hn : rd ls i = who
      · exact ⟨_, _, _, _, _, by simp, fun n g gw gl w h => do_free_yes who i o v w h hi hn, fun n g gw gl w h => ref_free_yes who i o v w h hi hn⟩
      · exact ⟨_, _, _, _, _, by simp, fun n g gw gl w h => do_free_no who i o v w h hi hn, fun n g gw gl w h => ref_free_no who i o v w h hi hn⟩
    · exact ⟨_, _, _, _, _, by simp, fun n g gw gl w h => do_free_miss who i o v w h hi, fun n g gw gl w h => ref_free_miss who i o v w h hi⟩
end Go.Proofs.Ytgikjgekdeaneaa.Cells
