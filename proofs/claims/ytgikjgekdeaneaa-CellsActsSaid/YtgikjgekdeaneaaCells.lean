/- Cells, by hand: the struct's block and the blocks of its two rows, and what each method does to them. -/
import Derived.Test.YtgikjgekdeaneaaProg
import Derived.Below
import Derived.Deep.Draws
import Derived.Deep.AppendLies
import Derived.Maps.AppendAt
import Derived.OwnWalk
import Derived.Laws.BytesArg
import Derived.Laws.MakeOwn
import Derived.Laws.OwnMore
import Derived.Deep.OwnRows
import Derived.Tactics
import Derived.Lib.ConvBytes
import Derived.Laws.Slices
import Derived.WalkKit
import Derived.KernelRfl
import Derived.RowKit3
import Derived.Deep.LoopGhost
import Derived.Deep.QuietTactic
import Derived.BigQuiet
import Derived.WideLaws
import Derived.Deep.DeepCutAuto
import Derived.Deep.CutBlock
import Derived.Deep.RegionHeld3
import Derived.Laws.Rows
import Derived.Lib.AppendStr
import Derived.ArgAppend
import Derived.Laws.IdiomCopy
import Derived.OrdersHeld
import Derived.Laws.BitsLemmas
import Derived.RowKit
import Derived.Lib.SliceRun
import Derived.Laws.Externs
import Derived.Laws.FloatArith
import Derived.WalkMore
import Derived.Scope
import Derived.Test.YtgikjgekdeaneaaWWords
import Derived.Test.YtgikjgekdeaneaaWLast
import Derived.Test.YtgikjgekdeaneaaWTab
import Derived.Test.YtgikjgekdeaneaaWFour
import Derived.Test.YtgikjgekdeaneaaWQPut
import Derived.Test.YtgikjgekdeaneaaWApart
import Derived.Test.YtgikjgekdeaneaaWArr
import Derived.Test.YtgikjgekdeaneaaWZeros
import Derived.Test.YtgikjgekdeaneaaWFoot
import Derived.Test.YtgikjgekdeaneaaWKept
import Derived.Test.YtgikjgekdeaneaaWShare
import Derived.Test.YtgikjgekdeaneaaWN
import Derived.Test.YtgikjgekdeaneaaWFootNe
import Derived.Test.YtgikjgekdeaneaaWAt
import Derived.Test.YtgikjgekdeaneaaWEqStruct
import Derived.Test.YtgikjgekdeaneaaWRepsOne
import Derived.Test.YtgikjgekdeaneaaWInv
import Derived.Test.YtgikjgekdeaneaaWInvWords
import Derived.Test.YtgikjgekdeaneaaWGuard
import Derived.Test.YtgikjgekdeaneaaWNEv
import Derived.Test.YtgikjgekdeaneaaWMore
namespace Go.Proofs.Ytgikjgekdeaneaa.Cells
open Go.RowKit Go.Proofs.YtgikjgekdeaneaaW.PrintWords Go.Proofs.YtgikjgekdeaneaaW.PrintLast Go.Proofs.YtgikjgekdeaneaaW.PrintMore
set_option linter.unusedVariables false
set_option linter.unusedSimpArgs false
/-- The block of a row of whole numbers. -/
def Row (w : World) (k : IntKind) (g : Nat) (xs : List Int) : Prop := ∃ t, w.heap[g]? = some (.cells (xs.map (Value.int k)).toArray t (0, 0))
structure Cs (n : Nat) (T : TypeId) (w : World) (g gw gl : Nat) (ws ls : List Int) (t : Int) : Prop where
  st : w.heap[g]? = some (.cells #[.slice (some ⟨gw, 0, none⟩) ws.length ws.length, .slice (some ⟨gl, 0, none⟩) ls.length ls.length, .int .i64 t] T (0, 0))
  wo : Row w .i64 gw ws
  la : Row w .i64 gl ls
  lo : n ≤ g ∧ n ≤ gw ∧ n ≤ gl
  ap : g ≠ gw ∧ g ≠ gl ∧ gw ≠ gl
theorem Row.at {w : World} {k : IntKind} {g : Nat} {xs : List Int} (h : Row w k g xs) (i : Int) (h0 : 0 ≤ i) (h1 : i < xs.length) : w.cell? ⟨g, i.toNat, none⟩ = some (.int k (rd xs i)) := by
  obtain ⟨t, h⟩ := h
  rw [blk_cell h]
  have : i.toNat < xs.length := by omega
  simp [rd, rdOf, this]
theorem Row.fz {w : World} {k : IntKind} {g : Nat} {xs : List Int} (h : Row w k g xs) (i : Nat) : w.frozen? ⟨g, i, none⟩ = false := by
  obtain ⟨t, h⟩ := h
  exact blk_frozen h i
theorem Row.far {w : World} {k : IntKind} {g : Nat} {xs : List Int} (h : Row w k g xs) {p : Addr} (hp : g ≠ p.block) (u : Value) : Row (w.setCell p u) k g xs := by
  obtain ⟨t, h⟩ := h
  exact ⟨t, blk_far h hp u⟩
theorem Row.put {w : World} {k : IntKind} {g : Nat} {xs : List Int} (h : Row w k g xs) (i : Nat) (v : Int) : Row (w.setCell ⟨g, i, none⟩ (.int k v)) k g (xs.set i v) := by
  obtain ⟨t, h⟩ := h
  exact ⟨t, blk_put h i _ (by simp [List.map_set])⟩
theorem Row.below {w w1 : World} {k : IntKind} {g : Nat} {xs : List Int} (h : Row w k g xs) (hb : Below w.heap.size w w1) : Row w1 k g xs := by
  obtain ⟨t, h⟩ := h
  exact ⟨t, blk_below h hb⟩
section
variable {n g gw gl : Nat} {T : TypeId} {w : World} {ws ls : List Int} {t : Int}
theorem Cs.tick (h : Cs n T w g gw gl ws ls t) (v : Int) : Cs n T (w.setCell ⟨g, 2, none⟩ (.int .i64 v)) g gw gl ws ls v :=
  ⟨blk_put h.st 2 _ rfl, h.wo.far (Ne.symm h.ap.1) _, h.la.far (Ne.symm h.ap.2.1) _, h.lo, h.ap⟩
theorem Cs.word (h : Cs n T w g gw gl ws ls t) (i : Nat) (v : Int) : Cs n T (w.setCell ⟨gw, i, none⟩ (.int .i64 v)) g gw gl (ws.set i v) ls t :=
  ⟨by rw [List.length_set]; exact blk_far h.st (p := ⟨gw, i, none⟩) h.ap.1 _, h.wo.put i v, h.la.far (Ne.symm h.ap.2.2) _, h.lo, h.ap⟩
theorem Cs.latch (h : Cs n T w g gw gl ws ls t) (i : Nat) (v : Int) : Cs n T (w.setCell ⟨gl, i, none⟩ (.int .i64 v)) g gw gl ws (ls.set i v) t :=
  ⟨by rw [List.length_set]; exact blk_far h.st (p := ⟨gl, i, none⟩) h.ap.2.1 _, h.wo.far h.ap.2.2 _, h.la.put i v, h.lo, h.ap⟩
theorem Cs.drewN (h : Cs n T w g gw gl ws ls t) (m : Nat) : Cs n T (w.drewN m) g gw gl ws ls t := ⟨h.st, h.wo, h.la, h.lo, h.ap⟩
theorem Cs.below (h : Cs n T w g gw gl ws ls t) {w1 : World} (hb : Below w.heap.size w w1) : Cs n T w1 g gw gl ws ls t := ⟨blk_below h.st hb, h.wo.below hb, h.la.below hb, h.lo, h.ap⟩
end
/-- Of three blocks alone something has turned. -/
def Ko (g gw gl : Nat) (w w' : World) : Prop := ∀ b, b < w.heap.size → b ≠ g → b ≠ gw → b ≠ gl → w'.heap[b]? = w.heap[b]?
/-- What a method leaves. -/
structure Did (n : Nat) (T : TypeId) (w w' : World) (g gw gl : Nat) (ws ls : List Int) (t : Int) : Prop where
  cs : Cs n T w' g gw gl ws ls t
  bel : Below n w w'
  ko : Ko g gw gl w w'
section
variable {n g gw gl : Nat} {T : TypeId} {w w' : World} {ws ls : List Int} {t : Int}
theorem Ko.refl : Ko g gw gl w w := fun _ _ _ _ _ => rfl
theorem Ko.put (h : Ko g gw gl w w') {p : Addr} (hp : p.block = g ∨ p.block = gw ∨ p.block = gl) (u : Value) : Ko g gw gl w (w'.setCell p u) :=
  fun b h0 h1 h2 h3 => (Below.heap_setCell w' p u b (by omega)).trans (h b h0 h1 h2 h3)
theorem Ko.trans {w1 : World} (h : Ko g gw gl w w') (hb : Below n w w') (k : Ko g gw gl w' w1) : Ko g gw gl w w1 :=
  fun b h0 h1 h2 h3 => (k b (Nat.lt_of_lt_of_le h0 hb.size) h1 h2 h3).trans (h b h0 h1 h2 h3)
theorem Ko.of_below (hb : Below w.heap.size w w') : Ko g gw gl w w' := fun b h0 _ _ _ => hb.block b h0
theorem Did.refl (h : Cs n T w g gw gl ws ls t) : Did n T w w g gw gl ws ls t := ⟨h, Below.refl _ _, Ko.refl⟩
theorem Did.drewN (h : Did n T w w' g gw gl ws ls t) (m : Nat) : Did n T w (w'.drewN m) g gw gl ws ls t := ⟨h.1.drewN m, pw_below_drewN h.2 m, h.3⟩
theorem Did.tick (h : Did n T w w' g gw gl ws ls t) (v : Int) : Did n T w (w'.setCell ⟨g, 2, none⟩ (.int .i64 v)) g gw gl ws ls v := ⟨h.1.tick v, h.2.setCell h.1.lo.1 _, h.3.put (.inl rfl) _⟩
theorem Did.word (h : Did n T w w' g gw gl ws ls t) (i : Nat) (v : Int) : Did n T w (w'.setCell ⟨gw, i, none⟩ (.int .i64 v)) g gw gl (ws.set i v) ls t := ⟨h.1.word i v, h.2.setCell (p := ⟨gw, i, none⟩) h.1.lo.2.1 _, h.3.put (.inr (.inl rfl)) _⟩
theorem Did.latch (h : Did n T w w' g gw gl ws ls t) (i : Nat) (v : Int) : Did n T w (w'.setCell ⟨gl, i, none⟩ (.int .i64 v)) g gw gl ws (ls.set i v) t := ⟨h.1.latch i v, h.2.setCell (p := ⟨gl, i, none⟩) h.1.lo.2.2 _, h.3.put (.inr (.inr rfl)) _⟩
theorem Did.trans {w1 : World} {ws' ls' : List Int} {t' : Int} (h : Did n T w w' g gw gl ws ls t) (k : Did n T w' w1 g gw gl ws' ls' t') : Did n T w w1 g gw gl ws' ls' t' := ⟨k.1, h.2.trans k.2, h.3.trans h.2 k.3⟩
end
set_option maxHeartbeats 8000000 in
set_option maxRecDepth 100000 in
theorem peek {n g gw gl : Nat} {ws ls : List Int} {t : Int} (i : Int) (w : World) (h : Cs n 137 w g gw gl ws ls t) :
  Calls Try.prog 30 #[.pointer (some ⟨g, 0, none⟩), .int .i64 i] w fun e w' => e = .returned (.int .i64 (if 0 ≤ i ∧ i < ws.length then rd ws i else 0)) ∧ Drawn0 w w' := by
 have f0 := (blk_cell h.st 0).trans rfl
 have f1 := (blk_cell h.st 1).trans rfl
 have f2 := (blk_cell h.st 2).trans rfl
 by_cases c0 : i < 0
 · rw [if_neg (by omega)]
   have c0b := decide_eq_true c0
   go_enter Try.func30, Try.ntmps30
   go_wp2
   go_ret
   exact ⟨rfl, by repeat (first | exact Drawn0.refl _ | apply Drawn0.step)⟩
 · have c0b := decide_eq_false c0
   by_cases c1 : (ws.length : Int) ≤ i
   · rw [if_neg (by omega)]
     have c1b := decide_eq_true c1
     go_enter Try.func30, Try.ntmps30
     go_wp2
     go_ret
     exact ⟨rfl, by repeat (first | exact Drawn0.refl _ | apply Drawn0.step)⟩
   · rw [if_pos (by omega)]
     have c1b := decide_eq_false c1
     have f3 := h.wo.at i (by omega) (by omega)
     have p0 : 0 ≤ i := by omega
     have p1 : i < (ws.length : Int) := by omega
     replace p0 := eq_true p0
     replace p1 := eq_true p1
     go_enter Try.func30, Try.ntmps30
     go_wp2
     go_ret
     exact ⟨rfl, by repeat (first | exact Drawn0.refl _ | apply Drawn0.step)⟩
set_option maxHeartbeats 8000000 in
set_option maxRecDepth 100000 in
theorem holder {n g gw gl : Nat} {ws ls : List Int} {t : Int} (i : Int) (w : World) (h : Cs n 137 w g gw gl ws ls t) :
  Calls Try.prog 31 #[.pointer (some ⟨g, 0, none⟩), .int .i64 i] w fun e w' => e = .returned (.int .i64 (if 0 ≤ i ∧ i < ls.length then rd ls i else (-1))) ∧ Drawn0 w w' := by
 have f0 := (blk_cell h.st 0).trans rfl
 have f1 := (blk_cell h.st 1).trans rfl
 have f2 := (blk_cell h.st 2).trans rfl
 by_cases c0 : i < 0
 · rw [if_neg (by omega)]
   have c0b := decide_eq_true c0
   go_enter Try.func31, Try.ntmps31
   go_wp2
   go_ret
   exact ⟨rfl, by repeat (first | exact Drawn0.refl _ | apply Drawn0.step)⟩
 · have c0b := decide_eq_false c0
   by_cases c1 : (ls.length : Int) ≤ i
   · rw [if_neg (by omega)]
     have c1b := decide_eq_true c1
     go_enter Try.func31, Try.ntmps31
     go_wp2
     go_ret
     exact ⟨rfl, by repeat (first | exact Drawn0.refl _ | apply Drawn0.step)⟩
   · rw [if_pos (by omega)]
     have c1b := decide_eq_false c1
     have f3 := h.la.at i (by omega) (by omega)
     have p0 : 0 ≤ i := by omega
     have p1 : i < (ls.length : Int) := by omega
     replace p0 := eq_true p0
     replace p1 := eq_true p1
     go_enter Try.func31, Try.ntmps31
     go_wp2
     go_ret
     exact ⟨rfl, by repeat (first | exact Drawn0.refl _ | apply Drawn0.step)⟩
set_option maxHeartbeats 8000000 in
set_option maxRecDepth 100000 in
theorem time_ {n g gw gl : Nat} {ws ls : List Int} {t : Int} (w : World) (h : Cs n 137 w g gw gl ws ls t) :
  Calls Try.prog 29 #[.pointer (some ⟨g, 0, none⟩)] w fun e w' => e = .returned (.int .i64 t) ∧ Drawn0 w w' := by
 have f2 := (blk_cell h.st 2).trans rfl
 go_enter Try.func29, Try.ntmps29
 go_wp2
 go_ret
 exact ⟨rfl, by repeat (first | exact Drawn0.refl _ | apply Drawn0.step)⟩
set_option maxHeartbeats 8000000 in
set_option maxRecDepth 100000 in
theorem word_miss {n g gw gl : Nat} {ws ls : List Int} {t : Int} (i : Int) (w : World) (h : Cs n 137 w g gw gl ws ls t) (hi : ¬ (0 ≤ i ∧ i < ws.length)) :
  Calls Try.prog 71 #[.pointer (some ⟨g, 0, none⟩), .int .i64 i] w fun e w' => e = .returned (.pointer none) ∧ Did n 137 w w' g gw gl ws ls t := by
 have f0 := (blk_cell h.st 0).trans rfl
 have f1 := (blk_cell h.st 1).trans rfl
 have f2 := (blk_cell h.st 2).trans rfl
 have z2 := blk_frozen h.st 2
 by_cases c0 : i < 0
 · have c0b := decide_eq_true c0
   go_enter Try.func71, Try.ntmps71
   go_wp2
   go_ret
   exact ⟨rfl, by (repeat apply Did.drewN); first | exact Did.refl h | exact (Did.refl h).tick _ | exact ((Did.refl h).tick _).latch _ _ | exact ((Did.refl h).tick _).word _ _⟩
 · have c0b := decide_eq_false c0
   have c1b := decide_eq_true (show (ws.length : Int) ≤ i by omega)
   go_enter Try.func71, Try.ntmps71
   go_wp2
   go_ret
   exact ⟨rfl, by (repeat apply Did.drewN); first | exact Did.refl h | exact (Did.refl h).tick _ | exact ((Did.refl h).tick _).latch _ _ | exact ((Did.refl h).tick _).word _ _⟩
set_option maxHeartbeats 8000000 in
set_option maxRecDepth 100000 in
theorem word_hit {n g gw gl : Nat} {ws ls : List Int} {t : Int} (i : Int) (w : World) (h : Cs n 137 w g gw gl ws ls t) (hi : 0 ≤ i ∧ i < ws.length) :
  Calls Try.prog 71 #[.pointer (some ⟨g, 0, none⟩), .int .i64 i] w fun e w' => e = .returned (.pointer (some ⟨gw, i.toNat, none⟩)) ∧ Did n 137 w w' g gw gl ws ls (wrap64 (t + 1)) := by
 have f0 := (blk_cell h.st 0).trans rfl
 have f1 := (blk_cell h.st 1).trans rfl
 have f2 := (blk_cell h.st 2).trans rfl
 have z2 := blk_frozen h.st 2
 have c0b := decide_eq_false (show ¬ i < 0 by omega)
 have c1b := decide_eq_false (show ¬ (ws.length : Int) ≤ i by omega)
 have p0 := eq_true hi.1
 have p1 := eq_true hi.2
 clear hi
 go_enter Try.func71, Try.ntmps71
 go_wp2
 go_ret
 exact ⟨rfl, by (repeat apply Did.drewN); first | exact Did.refl h | exact (Did.refl h).tick _ | exact ((Did.refl h).tick _).latch _ _ | exact ((Did.refl h).tick _).word _ _⟩
set_option maxHeartbeats 8000000 in
set_option maxRecDepth 100000 in
theorem load_miss {n g gw gl : Nat} {ws ls : List Int} {t : Int} (i : Int) (w : World) (h : Cs n 137 w g gw gl ws ls t) (hi : ¬ (0 ≤ i ∧ i < ws.length)) :
  Calls Try.prog 33 #[.pointer (some ⟨g, 0, none⟩), .int .i64 i] w fun e w' => e = .returned (.int .i64 0) ∧ Did n 137 w w' g gw gl ws ls t := by
 go_enter Try.func33, Try.ntmps33
 go_wp2_with (go_at_call 71; (with_reducible refine (word_miss i _ h hi).mono ?_); rintro e w' ⟨rfl, hd⟩)
 go_ret
 exact ⟨rfl, by (repeat apply Did.drewN); exact hd⟩
set_option maxHeartbeats 8000000 in
set_option maxRecDepth 100000 in
theorem load_hit {n g gw gl : Nat} {ws ls : List Int} {t : Int} (i : Int) (w : World) (h : Cs n 137 w g gw gl ws ls t) (hi : 0 ≤ i ∧ i < ws.length) :
  Calls Try.prog 33 #[.pointer (some ⟨g, 0, none⟩), .int .i64 i] w fun e w' => e = .returned (.int .i64 (rd ws i)) ∧ Did n 137 w w' g gw gl ws ls (wrap64 (t + 1)) := by
 go_enter Try.func33, Try.ntmps33
 go_wp2_with (go_at_call 71; (with_reducible refine (word_hit i _ h hi).mono ?_); rintro e w' ⟨rfl, hd⟩; have f3 := hd.1.wo.at i hi.1 hi.2)
 go_ret
 exact ⟨rfl, by (repeat apply Did.drewN); exact hd⟩
set_option maxHeartbeats 8000000 in
set_option maxRecDepth 100000 in
theorem store_miss {n g gw gl : Nat} {ws ls : List Int} {t : Int} (i v : Int) (w : World) (h : Cs n 137 w g gw gl ws ls t) (hi : ¬ (0 ≤ i ∧ i < ws.length)) :
  Calls Try.prog 32 #[.pointer (some ⟨g, 0, none⟩), .int .i64 i, .int .i64 v] w fun e w' => e = .returned (.tuple #[]) ∧ Did n 137 w w' g gw gl ws ls t := by
 go_enter Try.func32, Try.ntmps32
 go_wp2_with (go_at_call 71; (with_reducible refine (word_miss i _ h hi).mono ?_); rintro e w' ⟨rfl, hd⟩)
 go_end0
 exact ⟨rfl, by (repeat apply Did.drewN); exact hd⟩
set_option maxHeartbeats 8000000 in
set_option maxRecDepth 100000 in
theorem store_hit {n g gw gl : Nat} {ws ls : List Int} {t : Int} (i v : Int) (w : World) (h : Cs n 137 w g gw gl ws ls t) (hi : 0 ≤ i ∧ i < ws.length) :
  Calls Try.prog 32 #[.pointer (some ⟨g, 0, none⟩), .int .i64 i, .int .i64 v] w fun e w' => e = .returned (.tuple #[]) ∧ Did n 137 w w' g gw gl (ws.set i.toNat v) ls (wrap64 (t + 1)) := by
 go_enter Try.func32, Try.ntmps32
 go_wp2_with (go_at_call 71; (with_reducible refine (word_hit i _ h hi).mono ?_); rintro e w' ⟨rfl, hd⟩; have f3 := hd.1.wo.at i hi.1 hi.2; have z3 := hd.1.wo.fz i.toNat)
 go_end0
 exact ⟨rfl, by (repeat apply Did.drewN); exact hd.word _ _⟩
set_option maxHeartbeats 8000000 in
set_option maxRecDepth 100000 in
theorem swap_miss {n g gw gl : Nat} {ws ls : List Int} {t : Int} (i o v : Int) (w : World) (h : Cs n 137 w g gw gl ws ls t) (hi : ¬ (0 ≤ i ∧ i < ws.length)) :
  Calls Try.prog 34 #[.pointer (some ⟨g, 0, none⟩), .int .i64 i, .int .i64 o, .int .i64 v] w fun e w' => e = .returned (.bool false) ∧ Did n 137 w w' g gw gl ws ls t := by
 go_enter Try.func34, Try.ntmps34
 go_wp2_with (go_at_call 71; (with_reducible refine (word_miss i _ h hi).mono ?_); rintro e w' ⟨rfl, hd⟩)
 go_ret
 exact ⟨rfl, by (repeat apply Did.drewN); exact hd⟩
set_option maxHeartbeats 8000000 in
set_option maxRecDepth 100000 in
theorem swap_no {n g gw gl : Nat} {ws ls : List Int} {t : Int} (i o v : Int) (w : World) (h : Cs n 137 w g gw gl ws ls t) (hi : 0 ≤ i ∧ i < ws.length) (hn : rd ws i ≠ o) :
  Calls Try.prog 34 #[.pointer (some ⟨g, 0, none⟩), .int .i64 i, .int .i64 o, .int .i64 v] w fun e w' => e = .returned (.bool false) ∧ Did n 137 w w' g gw gl ws ls (wrap64 (t + 1)) := by
 have b0 : (rd ws i != o) = true := bne_iff_ne.mpr hn
 have b1 : (rd ws i == o) = false := beq_eq_false_iff_ne.mpr hn
 go_enter Try.func34, Try.ntmps34
 go_wp2_with (go_at_call 71; (with_reducible refine (word_hit i _ h hi).mono ?_); rintro e w' ⟨rfl, hd⟩; have f3 := hd.1.wo.at i hi.1 hi.2)
 go_ret
 exact ⟨rfl, by (repeat apply Did.drewN); exact hd⟩
set_option maxHeartbeats 8000000 in
set_option maxRecDepth 100000 in
theorem swap_yes {n g gw gl : Nat} {ws ls : List Int} {t : Int} (i o v : Int) (w : World) (h : Cs n 137 w g gw gl ws ls t) (hi : 0 ≤ i ∧ i < ws.length) (hn : rd ws i = o) :
  Calls Try.prog 34 #[.pointer (some ⟨g, 0, none⟩), .int .i64 i, .int .i64 o, .int .i64 v] w fun e w' => e = .returned (.bool true) ∧ Did n 137 w w' g gw gl (ws.set i.toNat v) ls (wrap64 (t + 1)) := by
 have b0 : (rd ws i != o) = false := bne_eq_false_iff_eq.mpr hn
 have b1 : (rd ws i == o) = true := beq_iff_eq.mpr hn
 clear hn
 go_enter Try.func34, Try.ntmps34
 go_wp2_with (go_at_call 71; (with_reducible refine (word_hit i _ h hi).mono ?_); rintro e w' ⟨rfl, hd⟩; have f3 := hd.1.wo.at i hi.1 hi.2; have z3 := hd.1.wo.fz i.toNat)
 go_ret
 exact ⟨rfl, by (repeat apply Did.drewN); exact hd.word _ _⟩
set_option maxHeartbeats 8000000 in
set_option maxRecDepth 100000 in
theorem pass_miss {n g gw gl : Nat} {ws ls : List Int} {t : Int} (who l fr to_ : Int) (w : World) (h : Cs n 137 w g gw gl ws ls t) (hi : ¬ (0 ≤ who ∧ 0 ≤ l ∧ l < ls.length)) :
  Calls Try.prog 72 #[.pointer (some ⟨g, 0, none⟩), .int .i64 who, .int .i64 l, .int .i64 fr, .int .i64 to_] w fun e w' => e = .returned (.bool false) ∧ Did n 137 w w' g gw gl ws ls t := by
 have f0 := (blk_cell h.st 0).trans rfl
 have f1 := (blk_cell h.st 1).trans rfl
 have f2 := (blk_cell h.st 2).trans rfl
 have z2 := blk_frozen h.st 2
 by_cases c0 : who < 0
 · have c0b := decide_eq_true c0
   go_enter Try.func72, Try.ntmps72
   go_wp2
   go_ret
   exact ⟨rfl, by (repeat apply Did.drewN); exact Did.refl h⟩
 · have c0b := decide_eq_false c0
   by_cases c1 : l < 0
   · have c1b := decide_eq_true c1
     go_enter Try.func72, Try.ntmps72
     go_wp2
     go_ret
     exact ⟨rfl, by (repeat apply Did.drewN); exact Did.refl h⟩
   · have c1b := decide_eq_false c1
     have c2b := decide_eq_true (show (ls.length : Int) ≤ l by omega)
     go_enter Try.func72, Try.ntmps72
     go_wp2
     go_ret
     exact ⟨rfl, by (repeat apply Did.drewN); exact Did.refl h⟩
set_option maxHeartbeats 8000000 in
set_option maxRecDepth 100000 in
theorem pass_no {n g gw gl : Nat} {ws ls : List Int} {t : Int} (who l fr to_ : Int) (w : World) (h : Cs n 137 w g gw gl ws ls t) (hi : 0 ≤ who ∧ 0 ≤ l ∧ l < ls.length) (hn : rd ls l ≠ fr) :
  Calls Try.prog 72 #[.pointer (some ⟨g, 0, none⟩), .int .i64 who, .int .i64 l, .int .i64 fr, .int .i64 to_] w fun e w' => e = .returned (.bool false) ∧ Did n 137 w w' g gw gl ws ls (wrap64 (t + 1)) := by
 have b0 : (rd ls l != fr) = true := bne_iff_ne.mpr hn
 have b1 : (rd ls l == fr) = false := beq_eq_false_iff_ne.mpr hn
 clear hn
 have f0 := (blk_cell h.st 0).trans rfl
 have f1 := (blk_cell h.st 1).trans rfl
 have f2 := (blk_cell h.st 2).trans rfl
 have z2 := blk_frozen h.st 2
 have c0b := decide_eq_false (show ¬ who < 0 by omega)
 have c1b := decide_eq_false (show ¬ l < 0 by omega)
 have c2b := decide_eq_false (show ¬ (ls.length : Int) ≤ l by omega)
 have f3 := h.la.at l hi.2.1 hi.2.2
 have z3 := h.la.fz l.toNat
 have a0 : g ≠ gl := h.ap.2.1
 have a1 : gl ≠ g := Ne.symm h.ap.2.1
 have p0 := eq_true hi.2.1
 have p1 := eq_true hi.2.2
 clear hi
 go_enter Try.func72, Try.ntmps72
 go_wp2
 go_ret
 exact ⟨rfl, by (repeat apply Did.drewN); exact (Did.refl h).tick _⟩
set_option maxHeartbeats 8000000 in
set_option maxRecDepth 100000 in
theorem pass_yes {n g gw gl : Nat} {ws ls : List Int} {t : Int} (who l fr to_ : Int) (w : World) (h : Cs n 137 w g gw gl ws ls t) (hi : 0 ≤ who ∧ 0 ≤ l ∧ l < ls.length) (hn : rd ls l = fr) :
  Calls Try.prog 72 #[.pointer (some ⟨g, 0, none⟩), .int .i64 who, .int .i64 l, .int .i64 fr, .int .i64 to_] w fun e w' => e = .returned (.bool true) ∧ Did n 137 w w' g gw gl ws (ls.set l.toNat to_) (wrap64 (t + 1)) := by
 have b0 : (rd ls l != fr) = false := bne_eq_false_iff_eq.mpr hn
 have b1 : (rd ls l == fr) = true := beq_iff_eq.mpr hn
 clear hn
 have f0 := (blk_cell h.st 0).trans rfl
 have f1 := (blk_cell h.st 1).trans rfl
 have f2 := (blk_cell h.st 2).trans rfl
 have z2 := blk_frozen h.st 2
 have c0b := decide_eq_false (show ¬ who < 0 by omega)
 have c1b := decide_eq_false (show ¬ l < 0 by omega)
 have c2b := decide_eq_false (show ¬ (ls.length : Int) ≤ l by omega)
 have f3 := h.la.at l hi.2.1 hi.2.2
 have z3 := h.la.fz l.toNat
 have a0 : g ≠ gl := h.ap.2.1
 have a1 : gl ≠ g := Ne.symm h.ap.2.1
 have p0 := eq_true hi.2.1
 have p1 := eq_true hi.2.2
 clear hi
 go_enter Try.func72, Try.ntmps72
 go_wp2
 go_ret
 exact ⟨rfl, by (repeat apply Did.drewN); exact ((Did.refl h).tick _).latch _ _⟩
set_option maxHeartbeats 8000000 in
set_option maxRecDepth 100000 in
theorem take_miss {n g gw gl : Nat} {ws ls : List Int} {t : Int} (who l : Int) (w : World) (h : Cs n 137 w g gw gl ws ls t) (hi : ¬ (0 ≤ who ∧ 0 ≤ l ∧ l < ls.length)) :
  Calls Try.prog 35 #[.pointer (some ⟨g, 0, none⟩), .int .i64 who, .int .i64 l] w fun e w' => e = .returned (.bool false) ∧ Did n 137 w w' g gw gl ws ls t := by
 go_enter Try.func35, Try.ntmps35
 go_wp2_with (go_at_call 72; (with_reducible refine (pass_miss who l (-1) who _ h hi).mono ?_); rintro e w' ⟨rfl, hd⟩)
 go_ret
 exact ⟨rfl, by (repeat apply Did.drewN); exact hd⟩
set_option maxHeartbeats 8000000 in
set_option maxRecDepth 100000 in
theorem take_no {n g gw gl : Nat} {ws ls : List Int} {t : Int} (who l : Int) (w : World) (h : Cs n 137 w g gw gl ws ls t) (hi : 0 ≤ who ∧ 0 ≤ l ∧ l < ls.length) (hn : rd ls l ≠ (-1)) :
  Calls Try.prog 35 #[.pointer (some ⟨g, 0, none⟩), .int .i64 who, .int .i64 l] w fun e w' => e = .returned (.bool false) ∧ Did n 137 w w' g gw gl ws ls (wrap64 (t + 1)) := by
 go_enter Try.func35, Try.ntmps35
 go_wp2_with (go_at_call 72; (with_reducible refine (pass_no who l (-1) who _ h hi hn).mono ?_); rintro e w' ⟨rfl, hd⟩)
 go_ret
 exact ⟨rfl, by (repeat apply Did.drewN); exact hd⟩
set_option maxHeartbeats 8000000 in
set_option maxRecDepth 100000 in
theorem take_yes {n g gw gl : Nat} {ws ls : List Int} {t : Int} (who l : Int) (w : World) (h : Cs n 137 w g gw gl ws ls t) (hi : 0 ≤ who ∧ 0 ≤ l ∧ l < ls.length) (hn : rd ls l = (-1)) :
  Calls Try.prog 35 #[.pointer (some ⟨g, 0, none⟩), .int .i64 who, .int .i64 l] w fun e w' => e = .returned (.bool true) ∧ Did n 137 w w' g gw gl ws (ls.set l.toNat who) (wrap64 (t + 1)) := by
 go_enter Try.func35, Try.ntmps35
 go_wp2_with (go_at_call 72; (with_reducible refine (pass_yes who l (-1) who _ h hi hn).mono ?_); rintro e w' ⟨rfl, hd⟩)
 go_ret
 exact ⟨rfl, by (repeat apply Did.drewN); exact hd⟩
set_option maxHeartbeats 8000000 in
set_option maxRecDepth 100000 in
theorem free_miss {n g gw gl : Nat} {ws ls : List Int} {t : Int} (who l : Int) (w : World) (h : Cs n 137 w g gw gl ws ls t) (hi : ¬ (0 ≤ who ∧ 0 ≤ l ∧ l < ls.length)) :
  Calls Try.prog 36 #[.pointer (some ⟨g, 0, none⟩), .int .i64 who, .int .i64 l] w fun e w' => e = .returned (.bool false) ∧ Did n 137 w w' g gw gl ws ls t := by
 go_enter Try.func36, Try.ntmps36
 go_wp2_with (go_at_call 72; (with_reducible refine (pass_miss who l who (-1) _ h hi).mono ?_); rintro e w' ⟨rfl, hd⟩)
 go_ret
 exact ⟨rfl, by (repeat apply Did.drewN); exact hd⟩
set_option maxHeartbeats 8000000 in
set_option maxRecDepth 100000 in
theorem free_no {n g gw gl : Nat} {ws ls : List Int} {t : Int} (who l : Int) (w : World) (h : Cs n 137 w g gw gl ws ls t) (hi : 0 ≤ who ∧ 0 ≤ l ∧ l < ls.length) (hn : rd ls l ≠ who) :
  Calls Try.prog 36 #[.pointer (some ⟨g, 0, none⟩), .int .i64 who, .int .i64 l] w fun e w' => e = .returned (.bool false) ∧ Did n 137 w w' g gw gl ws ls (wrap64 (t + 1)) := by
 go_enter Try.func36, Try.ntmps36
 go_wp2_with (go_at_call 72; (with_reducible refine (pass_no who l who (-1) _ h hi hn).mono ?_); rintro e w' ⟨rfl, hd⟩)
 go_ret
 exact ⟨rfl, by (repeat apply Did.drewN); exact hd⟩
set_option maxHeartbeats 8000000 in
set_option maxRecDepth 100000 in
theorem free_yes {n g gw gl : Nat} {ws ls : List Int} {t : Int} (who l : Int) (w : World) (h : Cs n 137 w g gw gl ws ls t) (hi : 0 ≤ who ∧ 0 ≤ l ∧ l < ls.length) (hn : rd ls l = who) :
  Calls Try.prog 36 #[.pointer (some ⟨g, 0, none⟩), .int .i64 who, .int .i64 l] w fun e w' => e = .returned (.bool true) ∧ Did n 137 w w' g gw gl ws (ls.set l.toNat (-1)) (wrap64 (t + 1)) := by
 go_enter Try.func36, Try.ntmps36
 go_wp2_with (go_at_call 72; (with_reducible refine (pass_yes who l who (-1) _ h hi hn).mono ?_); rintro e w' ⟨rfl, hd⟩)
 go_ret
 exact ⟨rfl, by (repeat apply Did.drewN); exact hd⟩
set_option maxHeartbeats 8000000 in
set_option maxRecDepth 100000 in
theorem time_nil  (w : World) :
  Calls Try.prog 29 #[.pointer none] w fun e w' => e = .returned (.int .i64 0) ∧ Drawn0 w w' := by
 go_enter Try.func29, Try.ntmps29
 go_wp2
 go_ret
 exact ⟨rfl, by repeat (first | exact Drawn0.refl _ | apply Drawn0.step)⟩
set_option maxHeartbeats 8000000 in
set_option maxRecDepth 100000 in
theorem peek_nil (a0 : Int) (w : World) :
  Calls Try.prog 30 #[.pointer none, .int .i64 a0] w fun e w' => e = .returned (.int .i64 0) ∧ Drawn0 w w' := by
 go_enter Try.func30, Try.ntmps30
 go_wp2
 go_ret
 exact ⟨rfl, by repeat (first | exact Drawn0.refl _ | apply Drawn0.step)⟩
set_option maxHeartbeats 8000000 in
set_option maxRecDepth 100000 in
theorem holder_nil (a0 : Int) (w : World) :
  Calls Try.prog 31 #[.pointer none, .int .i64 a0] w fun e w' => e = .returned (.int .i64 (-1)) ∧ Drawn0 w w' := by
 go_enter Try.func31, Try.ntmps31
 go_wp2
 go_ret
 exact ⟨rfl, by repeat (first | exact Drawn0.refl _ | apply Drawn0.step)⟩
set_option maxHeartbeats 8000000 in
set_option maxRecDepth 100000 in
theorem word_nil (a0 : Int) (w : World) :
  Calls Try.prog 71 #[.pointer none, .int .i64 a0] w fun e w' => e = .returned (.pointer none) ∧ Drawn0 w w' := by
 go_enter Try.func71, Try.ntmps71
 go_wp2
 go_ret
 exact ⟨rfl, by repeat (first | exact Drawn0.refl _ | apply Drawn0.step)⟩
set_option maxHeartbeats 8000000 in
set_option maxRecDepth 100000 in
theorem pass_nil (a0 : Int) (a1 : Int) (a2 : Int) (a3 : Int) (w : World) :
  Calls Try.prog 72 #[.pointer none, .int .i64 a0, .int .i64 a1, .int .i64 a2, .int .i64 a3] w fun e w' => e = .returned (.bool false) ∧ Drawn0 w w' := by
 go_enter Try.func72, Try.ntmps72
 go_wp2
 go_ret
 exact ⟨rfl, by repeat (first | exact Drawn0.refl _ | apply Drawn0.step)⟩
set_option maxHeartbeats 8000000 in
set_option maxRecDepth 100000 in
theorem load_nil (a0 : Int) (w : World) :
  Calls Try.prog 33 #[.pointer none, .int .i64 a0] w fun e w' => e = .returned (.int .i64 0) ∧ Drawn0 w w' := by
 go_enter Try.func33, Try.ntmps33
 go_wp2_with (go_at_call 71; (with_reducible refine (word_nil a0 _).mono ?_); rintro e w' ⟨rfl, ⟨nd, rfl⟩⟩)
 go_ret
 exact ⟨rfl, by repeat (first | exact Drawn0.refl _ | apply Drawn0.step)⟩
set_option maxHeartbeats 8000000 in
set_option maxRecDepth 100000 in
theorem store_nil (a0 : Int) (a1 : Int) (w : World) :
  Calls Try.prog 32 #[.pointer none, .int .i64 a0, .int .i64 a1] w fun e w' => e = .returned (.tuple #[]) ∧ Drawn0 w w' := by
 go_enter Try.func32, Try.ntmps32
 go_wp2_with (go_at_call 71; (with_reducible refine (word_nil a0 _).mono ?_); rintro e w' ⟨rfl, ⟨nd, rfl⟩⟩)
 go_end0
 exact ⟨rfl, by repeat (first | exact Drawn0.refl _ | apply Drawn0.step)⟩
set_option maxHeartbeats 8000000 in
set_option maxRecDepth 100000 in
theorem swap_nil (a0 : Int) (a1 : Int) (a2 : Int) (w : World) :
  Calls Try.prog 34 #[.pointer none, .int .i64 a0, .int .i64 a1, .int .i64 a2] w fun e w' => e = .returned (.bool false) ∧ Drawn0 w w' := by
 go_enter Try.func34, Try.ntmps34
 go_wp2_with (go_at_call 71; (with_reducible refine (word_nil a0 _).mono ?_); rintro e w' ⟨rfl, ⟨nd, rfl⟩⟩)
 go_ret
 exact ⟨rfl, by repeat (first | exact Drawn0.refl _ | apply Drawn0.step)⟩
set_option maxHeartbeats 8000000 in
set_option maxRecDepth 100000 in
theorem take_nil (a0 : Int) (a1 : Int) (w : World) :
  Calls Try.prog 35 #[.pointer none, .int .i64 a0, .int .i64 a1] w fun e w' => e = .returned (.bool false) ∧ Drawn0 w w' := by
 go_enter Try.func35, Try.ntmps35
 go_wp2_with (go_at_call 72; (with_reducible refine (pass_nil a0 a1 (-1) a0 _).mono ?_); rintro e w' ⟨rfl, ⟨nd, rfl⟩⟩)
 go_ret
 exact ⟨rfl, by repeat (first | exact Drawn0.refl _ | apply Drawn0.step)⟩
set_option maxHeartbeats 8000000 in
set_option maxRecDepth 100000 in
theorem free_nil (a0 : Int) (a1 : Int) (w : World) :
  Calls Try.prog 36 #[.pointer none, .int .i64 a0, .int .i64 a1] w fun e w' => e = .returned (.bool false) ∧ Drawn0 w w' := by
 go_enter Try.func36, Try.ntmps36
 go_wp2_with (go_at_call 72; (with_reducible refine (pass_nil a0 a1 a0 (-1) _).mono ?_); rintro e w' ⟨rfl, ⟨nd, rfl⟩⟩)
 go_ret
 exact ⟨rfl, by repeat (first | exact Drawn0.refl _ | apply Drawn0.step)⟩
end Go.Proofs.Ytgikjgekdeaneaa.Cells
