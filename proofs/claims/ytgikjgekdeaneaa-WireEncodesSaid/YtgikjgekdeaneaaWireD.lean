/- Wire: Decode by hand. -/
import Derived.Test.YtgikjgekdeaneaaWireV
import Derived.StillTailTactics
namespace Go.Proofs.Ytgikjgekdeaneaa.Wire
open Go.RowKit Go.Proofs.Ytgikjgekdeaneaa.QWire Go.Proofs.YtgikjgekdeaneaaW.PrintWords Go.Proofs.YtgikjgekdeaneaaW.PrintLast Go.Proofs.YtgikjgekdeaneaaW.PrintMore Go.Proofs.Ytgikjgekdeaneaa.Own
set_option linter.unusedVariables false
set_option linter.unusedSimpArgs false
def Msg.v (m : Msg) : Value := .agg #[.int .i64 m.k, .int .i64 m.a, .int .i64 m.s, .bool m.b, .int .i64 m.p, .int .i64 m.q, .int .i64 m.n, .int .i64 m.t, .int .i64 m.i, .int .i64 m.y, .int .i64 m.d, .int .i64 m.m]
def zero : Msg := ⟨0, 0, 0, false, 0, 0, 0, 0, 0, 0, 0, 0⟩
/-- A message of so many bytes, and what is left. -/
def decM (l : List Int) : Msg × Option (List Int) :=
  let t1 := take 1 (some l)
  if t1.1 = 0 then let o := ord t1.2; (⟨0, o.1.a, o.1.s, o.1.b, o.1.p, o.1.q, o.1.n, o.1.t, 0, 0, 0, 0⟩, o.2)
  else if t1.1 = 1 ∨ t1.1 = 3 then let t := take 4 t1.2; ({ zero with k := t1.1, i := t.1 }, t.2)
  else if t1.1 = 2 then let t := take 4 t1.2; let u := take 8 t.2; ({ zero with k := t1.1, i := t.1, y := u.1 }, u.2)
  else if t1.1 = 6 then let t := take 2 t1.2; let u := take 8 t.2; ({ zero with k := t1.1, d := t.1, m := u.1 }, u.2)
  else ({ zero with k := t1.1 }, t1.2)
/-- The message with which bytes begin, and what is left. -/
def dec (l : List Int) : Option (Msg × List Int) :=
  match (decM l).2 with
  | none => none
  | some r => if 6 < (decM l).1.k then none else some ((decM l).1, r)
/-- What Decode answers. -/
structure Decd (n : Nat) (d : Option (Msg × List Int)) (e : Ending) (w' : World) : Prop where
  no : d = none → e = .returned (.tuple #[zero.v, .slice none 0 0, .int .i64 1])
  yes : ∀ m r, d = some (m, r) → ∃ A c, e = .returned (.tuple #[m.v, .slice A r.length c, .int .i64 0]) ∧ r.length ≤ c ∧ Bytes r ∧ Kd.F (Kd.int .u8) w' (fun k => n ≤ k) A r.length r
/-- Bytes lie in no block that holds none. -/
theorem C_u8_far {w w' : World} {A : Option Addr} {l : List Int} {g : Nat} {cs : Array Value} {t : TypeId} (h : Kd.C (Kd.int .u8) w A l.length l) (hb : w.heap[g]? = some (.cells cs t (0, 0))) (hn : ∀ x, (Value.int .u8 x) ∉ cs) (hw : Ch (one g) w w') : Kd.C (Kd.int .u8) w' A l.length l := by
  obtain ⟨h1, h2, h3⟩ := h
  refine ⟨h1, h2, fun hp => ?_⟩
  obtain ⟨ad, rfl, hc⟩ := h3 hp
  refine ⟨ad, rfl, fun j p hj => ?_⟩
  obtain ⟨c, hl, hk, hcc⟩ := hc j p hj
  refine ⟨c, hl, hk, fun i u hu => ?_⟩
  have h0 := hcc i u hu
  have hu2 : u = .int .u8 p := by
    rw [show c = [.int .u8 p] from hk] at hu
    cases i with
    | zero => simpa using hu.symm
    | succ i => simp at hu
  subst hu2
  have hne : (ad.add (j * (Kd.int .u8).sz + i)).block ≠ g := by
    intro e
    unfold World.cell? at h0
    rw [e, hb] at h0
    simp only at h0
    split at h0
    · cases h0
    · exact hn p (Array.mem_of_getElem? h0)
  rw [← h0]
  exact World.cell?_of_block (hw.5 _ (World.block_lt_of_cell? w _ h0) hne)
/-- A message's cells. -/
def Msg.cs (m : Msg) : Array Value := #[.int .i64 m.k, .int .i64 m.a, .int .i64 m.s, .bool m.b, .int .i64 m.p, .int .i64 m.q, .int .i64 m.n, .int .i64 m.t, .int .i64 m.i, .int .i64 m.y, .int .i64 m.d, .int .i64 m.m]
theorem blk_all12 {w : World} {g : Nat} {t : TypeId} {x0 x1 x2 x3 x4 x5 x6 x7 x8 x9 x10 x11 : Value} (h : w.heap[g]? = some (.cells #[x0, x1, x2, x3, x4, x5, x6, x7, x8, x9, x10, x11] t (0, 0))) :
    (w.cell? ⟨g, 0, none⟩ = some x0 ∧ w.cell? ⟨g, 1, none⟩ = some x1 ∧ w.cell? ⟨g, 2, none⟩ = some x2 ∧ w.cell? ⟨g, 3, none⟩ = some x3 ∧ w.cell? ⟨g, 4, none⟩ = some x4 ∧ w.cell? ⟨g, 5, none⟩ = some x5 ∧ w.cell? ⟨g, 6, none⟩ = some x6 ∧ w.cell? ⟨g, 7, none⟩ = some x7 ∧ w.cell? ⟨g, 8, none⟩ = some x8 ∧ w.cell? ⟨g, 9, none⟩ = some x9 ∧ w.cell? ⟨g, 10, none⟩ = some x10 ∧ w.cell? ⟨g, 11, none⟩ = some x11) ∧ w.frozen? ⟨g, 0, none⟩ = false ∧ w.frozen? ⟨g, 1, none⟩ = false ∧ w.frozen? ⟨g, 2, none⟩ = false ∧ w.frozen? ⟨g, 3, none⟩ = false ∧ w.frozen? ⟨g, 4, none⟩ = false ∧ w.frozen? ⟨g, 5, none⟩ = false ∧ w.frozen? ⟨g, 6, none⟩ = false ∧ w.frozen? ⟨g, 7, none⟩ = false ∧ w.frozen? ⟨g, 8, none⟩ = false ∧ w.frozen? ⟨g, 9, none⟩ = false ∧ w.frozen? ⟨g, 10, none⟩ = false ∧ w.frozen? ⟨g, 11, none⟩ = false :=
  ⟨⟨(blk_cell h 0).trans rfl, (blk_cell h 1).trans rfl, (blk_cell h 2).trans rfl, (blk_cell h 3).trans rfl, (blk_cell h 4).trans rfl, (blk_cell h 5).trans rfl, (blk_cell h 6).trans rfl, (blk_cell h 7).trans rfl, (blk_cell h 8).trans rfl, (blk_cell h 9).trans rfl, (blk_cell h 10).trans rfl, (blk_cell h 11).trans rfl⟩, ⟨blk_frozen h 0, blk_frozen h 1, blk_frozen h 2, blk_frozen h 3, blk_frozen h 4, blk_frozen h 5, blk_frozen h 6, blk_frozen h 7, blk_frozen h 8, blk_frozen h 9, blk_frozen h 10, blk_frozen h 11⟩⟩
set_option maxHeartbeats 8000000 in
set_option maxRecDepth 100000 in
theorem decode_ (A : Option Addr) (c : Nat) (l : List Int) (w : World) (hr : Kd.C (Kd.int .u8) w A l.length l) (hc : l.length ≤ c) (hB : Bytes l) (hl : l.length < 140737488355328) :
  Calls Try.prog 17 #[.slice A l.length c] w fun e w' => Decd w.heap.size (dec l) e w' ∧ Below w.heap.size w w' := by
 have hcl : slices_Clone_byte_byte.f l = some l := by unfold slices_Clone_byte_byte.f; simp [hl]
 have HCL := Aside0.mk hcl
 have HR := Aside0.mk hr
 clear hcl hr
 go_enter Try.func17, Try.ntmps17
 go_wp2_with (fail)
 refine (slices_Clone_byte_byte.calls A c l l _ (Kd.C_alloc HR.out _) hc HCL.out).mono ?_
 rintro e w1 ⟨v, rfl, ho, hb⟩
 obtain ⟨A1, c1, rfl, hc1, _⟩ := Kd.R_reads ho
 have F1 : Bs (w.heap.size + 1) w1 w1.heap.size A1 l := Kd.F_mono (Kd.R_F (Kd.R_bound ho)) (fun k hk => ⟨by have := hk.2.1; rw [size_alloc] at this; exact this, hk.2.2.1⟩)
 have T1 : Tk 127 (w.heap.size + 1) (w1.alloc (.cells #[.slice A1 l.length c1, .bool false] 127)) w1.heap.size (some l) := Tk.mk_good (new_at w1 _ _ rfl) hc1 hB (F1.ch (S := none_) ((Ch.refl _ w1).alloc _) (fun _ hk => hk.elim))
 have hrg : w.heap.size < w1.heap.size := by have := hb.size; rw [size_alloc] at this; omega
 have R1 := blk_below (new_at w (.cells #[.int .i64 0, .int .i64 0, .int .i64 0, .bool false, .int .i64 0, .int .i64 0, .int .i64 0, .int .i64 0, .int .i64 0, .int .i64 0, .int .i64 0, .int .i64 0] 30) _ rfl) hb
 have C1 : Ch none_ w w1 := ((Ch.refl none_ w).alloc _).step hb
 obtain ⟨k, s1, e1⟩ : ∃ x s, take 1 (some l) = (x, s) := ⟨_, _, rfl⟩
 have E1 := Aside0.mk e1
 clear ho F1 hb e1
 go_wp2_with (fail)
 refine (takeI' E1 _ T1 (by decide)).mono ?_
 rintro e w2 ⟨rfl, T2, c2⟩
 have C2 : Ch none_ w w2 := (C1.alloc _).then_ c2 (fun k hk hs => absurd hk (by rw [show k = w1.heap.size from hs]; omega))
 have R2 := c2.blk (blk_alloc R1 _) (Nat.ne_of_lt hrg)
 have hl2 := T2.lt
 have HT := Aside0.mk (T2.alloc (.cells #[.int .i64 k, .int .i64 0, .int .i64 0, .bool false, .int .i64 0, .int .i64 0, .int .i64 0, .int .i64 0, .int .i64 0, .int .i64 0, .int .i64 0, .int .i64 0] 30))
 have HRB := Aside0.mk (blk_alloc R2 (.cells #[.int .i64 k, .int .i64 0, .int .i64 0, .bool false, .int .i64 0, .int .i64 0, .int .i64 0, .int .i64 0, .int .i64 0, .int .i64 0, .int .i64 0, .int .i64 0] 30))
 have HMB := Aside0.mk (new_at w2 (.cells #[.int .i64 k, .int .i64 0, .int .i64 0, .bool false, .int .i64 0, .int .i64 0, .int .i64 0, .int .i64 0, .int .i64 0, .int .i64 0, .int .i64 0, .int .i64 0] 30) _ rfl)
 have HC := Aside0.mk (C2.alloc (.cells #[.int .i64 k, .int .i64 0, .int .i64 0, .bool false, .int .i64 0, .int .i64 0, .int .i64 0, .int .i64 0, .int .i64 0, .int .i64 0, .int .i64 0, .int .i64 0] 30))
 clear T1 C1 R1 c2 T2 R2 C2
 have rg1 : w1.heap.size ≠ w2.heap.size := Nat.ne_of_lt hl2
 have rg2 : w2.heap.size ≠ w1.heap.size := Nat.ne_of_gt hl2
 have rg3 : w.heap.size ≠ w2.heap.size := by omega
 have rg4 : w2.heap.size ≠ w.heap.size := by omega
 go_upto_block 0 with (fail)
 go_cut [] (fun wc => ∃ (m : Msg) (s : Option (List Int)), Aside0 (decM l = (m, s)) ∧ Aside0 (Tk 127 (w.heap.size + 1) wc w1.heap.size s) ∧ Aside0 (wc.heap[w2.heap.size]? = some (.cells m.cs 30 (0, 0))) ∧ Aside0 (wc.heap[w.heap.size]? = some (.cells #[.int .i64 0, .int .i64 0, .int .i64 0, .bool false, .int .i64 0, .int .i64 0, .int .i64 0, .int .i64 0, .int .i64 0, .int .i64 0, .int .i64 0, .int .i64 0] 30 (0, 0))) ∧ Aside0 (Ch none_ w wc))
 case first =>
  by_cases k0 : k = 0
  · subst k0
    go_wp2_with (fail)
    refine (order_ _ _ (HT.out)).mono ?_
    rintro e v1 ⟨rfl, t1, c1⟩
    have M1 := c1.blk (HMB.out) rg2
    have B1 := c1.blk (HRB.out) (Nat.ne_of_lt hrg)
    have K1 := Ch.then_ (HC.out) c1 (fun k hk hs => absurd hk (by rw [show k = w1.heap.size from hs]; omega))
    have f1 := Aside0.mk t1
    have MM1 := Aside0.mk M1
    have BB1 := Aside0.mk B1
    have KK1 := Aside0.mk K1
    clear t1 c1 M1 B1 K1
    have x_1 := (blk_cell (MM1.out) 1).trans rfl
    have y_1 := blk_frozen (MM1.out) 1
    have x_2 := (blk_cell (MM1.out) 2).trans rfl
    have y_2 := blk_frozen (MM1.out) 2
    have x_3 := (blk_cell (MM1.out) 3).trans rfl
    have y_3 := blk_frozen (MM1.out) 3
    have x_4 := (blk_cell (MM1.out) 4).trans rfl
    have y_4 := blk_frozen (MM1.out) 4
    have x_5 := (blk_cell (MM1.out) 5).trans rfl
    have y_5 := blk_frozen (MM1.out) 5
    have x_6 := (blk_cell (MM1.out) 6).trans rfl
    have y_6 := blk_frozen (MM1.out) 6
    have x_7 := (blk_cell (MM1.out) 7).trans rfl
    have y_7 := blk_frozen (MM1.out) 7
    go_wp2_with (fail)
    go_meet
    case rel => exact ⟨⟨0, (ord s1).1.a, (ord s1).1.s, (ord s1).1.b, (ord s1).1.p, (ord s1).1.q, (ord s1).1.n, (ord s1).1.t, 0, 0, 0, 0⟩, (ord s1).2, ⟨by unfold decM; rw [E1.out]; rfl⟩, ⟨Tk.far (Tk.far (Tk.far (Tk.far (Tk.far (Tk.far (Tk.far (f1.out) hl2 (i := 1) (.int .i64 (ord s1).1.a)) hl2 (i := 2) (.int .i64 (ord s1).1.s)) hl2 (i := 3) (.bool (ord s1).1.b)) hl2 (i := 4) (.int .i64 (ord s1).1.p)) hl2 (i := 5) (.int .i64 (ord s1).1.q)) hl2 (i := 6) (.int .i64 (ord s1).1.n)) hl2 (i := 7) (.int .i64 (ord s1).1.t)⟩, ⟨blk_put (blk_put (blk_put (blk_put (blk_put (blk_put (blk_put (MM1.out) 1 (.int .i64 (ord s1).1.a) rfl) 2 (.int .i64 (ord s1).1.s) rfl) 3 (.bool (ord s1).1.b) rfl) 4 (.int .i64 (ord s1).1.p) rfl) 5 (.int .i64 (ord s1).1.q) rfl) 6 (.int .i64 (ord s1).1.n) rfl) 7 (.int .i64 (ord s1).1.t) rfl⟩, ⟨blk_far (p := ⟨w2.heap.size, 7, none⟩) (blk_far (p := ⟨w2.heap.size, 6, none⟩) (blk_far (p := ⟨w2.heap.size, 5, none⟩) (blk_far (p := ⟨w2.heap.size, 4, none⟩) (blk_far (p := ⟨w2.heap.size, 3, none⟩) (blk_far (p := ⟨w2.heap.size, 2, none⟩) (blk_far (p := ⟨w2.heap.size, 1, none⟩) (BB1.out) rg3 (.int .i64 (ord s1).1.a)) rg3 (.int .i64 (ord s1).1.s)) rg3 (.bool (ord s1).1.b)) rg3 (.int .i64 (ord s1).1.p)) rg3 (.int .i64 (ord s1).1.q)) rg3 (.int .i64 (ord s1).1.n)) rg3 (.int .i64 (ord s1).1.t)⟩, ⟨Ch.set (p := ⟨w2.heap.size, 7, none⟩) (Ch.set (p := ⟨w2.heap.size, 6, none⟩) (Ch.set (p := ⟨w2.heap.size, 5, none⟩) (Ch.set (p := ⟨w2.heap.size, 4, none⟩) (Ch.set (p := ⟨w2.heap.size, 3, none⟩) (Ch.set (p := ⟨w2.heap.size, 2, none⟩) (Ch.set (p := ⟨w2.heap.size, 1, none⟩) (KK1.out) (fun h => absurd h (by show ¬ w2.heap.size < _; omega)) (.int .i64 (ord s1).1.a)) (fun h => absurd h (by show ¬ w2.heap.size < _; omega)) (.int .i64 (ord s1).1.s)) (fun h => absurd h (by show ¬ w2.heap.size < _; omega)) (.bool (ord s1).1.b)) (fun h => absurd h (by show ¬ w2.heap.size < _; omega)) (.int .i64 (ord s1).1.p)) (fun h => absurd h (by show ¬ w2.heap.size < _; omega)) (.int .i64 (ord s1).1.q)) (fun h => absurd h (by show ¬ w2.heap.size < _; omega)) (.int .i64 (ord s1).1.n)) (fun h => absurd h (by show ¬ w2.heap.size < _; omega)) (.int .i64 (ord s1).1.t)⟩⟩
  · by_cases k1 : k = 1
    · subst k1
      obtain ⟨x, s, e2⟩ : ∃ x s, take 4 s1 = (x, s) := ⟨_, _, rfl⟩
      have E2 := Aside0.mk e2
      clear e2
      go_wp2_with (fail)
      refine (takeI' E2 _ (HT.out) (by decide)).mono ?_
      rintro e v1 ⟨rfl, t1, c1⟩
      have M1 := c1.blk (HMB.out) rg2
      have B1 := c1.blk (HRB.out) (Nat.ne_of_lt hrg)
      have K1 := Ch.then_ (HC.out) c1 (fun k hk hs => absurd hk (by rw [show k = w1.heap.size from hs]; omega))
      have f1 := Aside0.mk t1
      have MM1 := Aside0.mk M1
      have BB1 := Aside0.mk B1
      have KK1 := Aside0.mk K1
      clear t1 c1 M1 B1 K1
      have x1_8 := (blk_cell (MM1.out) 8).trans rfl
      have y1_8 := blk_frozen (MM1.out) 8
      go_wp2_with (fail)
      go_meet
      case rel => exact ⟨{ zero with k := 1, i := x }, s, ⟨by unfold decM; rw [E1.out]; simp [E2.out]⟩, ⟨Tk.far (f1.out) hl2 (i := 8) (.int .i64 x)⟩, ⟨blk_put (MM1.out) 8 (.int .i64 x) rfl⟩, ⟨blk_far (p := ⟨w2.heap.size, 8, none⟩) (BB1.out) rg3 (.int .i64 x)⟩, ⟨Ch.set (p := ⟨w2.heap.size, 8, none⟩) (KK1.out) (fun h => absurd h (by show ¬ w2.heap.size < _; omega)) (.int .i64 x)⟩⟩
    · by_cases k3 : k = 3
      · subst k3
        obtain ⟨x, s, e2⟩ : ∃ x s, take 4 s1 = (x, s) := ⟨_, _, rfl⟩
        have E2 := Aside0.mk e2
        clear e2
        go_wp2_with (fail)
        refine (takeI' E2 _ (HT.out) (by decide)).mono ?_
        rintro e v1 ⟨rfl, t1, c1⟩
        have M1 := c1.blk (HMB.out) rg2
        have B1 := c1.blk (HRB.out) (Nat.ne_of_lt hrg)
        have K1 := Ch.then_ (HC.out) c1 (fun k hk hs => absurd hk (by rw [show k = w1.heap.size from hs]; omega))
        have f1 := Aside0.mk t1
        have MM1 := Aside0.mk M1
        have BB1 := Aside0.mk B1
        have KK1 := Aside0.mk K1
        clear t1 c1 M1 B1 K1
        have x1_8 := (blk_cell (MM1.out) 8).trans rfl
        have y1_8 := blk_frozen (MM1.out) 8
        go_wp2_with (fail)
        go_meet
        case rel => exact ⟨{ zero with k := 3, i := x }, s, ⟨by unfold decM; rw [E1.out]; simp [E2.out]⟩, ⟨Tk.far (f1.out) hl2 (i := 8) (.int .i64 x)⟩, ⟨blk_put (MM1.out) 8 (.int .i64 x) rfl⟩, ⟨blk_far (p := ⟨w2.heap.size, 8, none⟩) (BB1.out) rg3 (.int .i64 x)⟩, ⟨Ch.set (p := ⟨w2.heap.size, 8, none⟩) (KK1.out) (fun h => absurd h (by show ¬ w2.heap.size < _; omega)) (.int .i64 x)⟩⟩
      · by_cases k2 : k = 2
        · subst k2
          obtain ⟨x, s, e2⟩ : ∃ x s, take 4 s1 = (x, s) := ⟨_, _, rfl⟩
          obtain ⟨x', s', e3⟩ : ∃ x s', take 8 s = (x, s') := ⟨_, _, rfl⟩
          have E2 := Aside0.mk e2
          have E3 := Aside0.mk e3
          clear e2 e3
          go_wp2_with (fail)
          refine (takeI' E2 _ (HT.out) (by decide)).mono ?_
          rintro e v1 ⟨rfl, t1, c1⟩
          have M1 := c1.blk (HMB.out) rg2
          have B1 := c1.blk (HRB.out) (Nat.ne_of_lt hrg)
          have K1 := Ch.then_ (HC.out) c1 (fun k hk hs => absurd hk (by rw [show k = w1.heap.size from hs]; omega))
          have f1 := Aside0.mk t1
          have MM1 := Aside0.mk M1
          have BB1 := Aside0.mk B1
          have KK1 := Aside0.mk K1
          clear t1 c1 M1 B1 K1
          have x1_8 := (blk_cell (MM1.out) 8).trans rfl
          have y1_8 := blk_frozen (MM1.out) 8
          go_wp2_with (fail)
          refine (takeI' E3 _ (Tk.far (f1.out) hl2 (i := 8) (.int .i64 x)) (by decide)).mono ?_
          rintro e v2 ⟨rfl, t2, c2⟩
          have M2 := c2.blk (blk_put (MM1.out) 8 (.int .i64 x) rfl) rg2
          have B2 := c2.blk (blk_far (p := ⟨w2.heap.size, 8, none⟩) (BB1.out) rg3 (.int .i64 x)) (Nat.ne_of_lt hrg)
          have K2 := Ch.then_ (Ch.set (p := ⟨w2.heap.size, 8, none⟩) (KK1.out) (fun h => absurd h (by show ¬ w2.heap.size < _; omega)) (.int .i64 x)) c2 (fun k hk hs => absurd hk (by rw [show k = w1.heap.size from hs]; omega))
          have f2 := Aside0.mk t2
          have MM2 := Aside0.mk M2
          have BB2 := Aside0.mk B2
          have KK2 := Aside0.mk K2
          clear t2 c2 M2 B2 K2
          have x2_9 := (blk_cell (MM2.out) 9).trans rfl
          have y2_9 := blk_frozen (MM2.out) 9
          go_wp2_with (fail)
          go_meet
          case rel => exact ⟨{ zero with k := 2, i := x, y := x' }, s', ⟨by unfold decM; rw [E1.out]; simp [E2.out, E3.out]⟩, ⟨Tk.far (f2.out) hl2 (i := 9) (.int .i64 x')⟩, ⟨blk_put (MM2.out) 9 (.int .i64 x') rfl⟩, ⟨blk_far (p := ⟨w2.heap.size, 9, none⟩) (BB2.out) rg3 (.int .i64 x')⟩, ⟨Ch.set (p := ⟨w2.heap.size, 9, none⟩) (KK2.out) (fun h => absurd h (by show ¬ w2.heap.size < _; omega)) (.int .i64 x')⟩⟩
        · by_cases k6 : k = 6
          · subst k6
            obtain ⟨x, s, e2⟩ : ∃ x s, take 2 s1 = (x, s) := ⟨_, _, rfl⟩
            obtain ⟨x', s', e3⟩ : ∃ x s', take 8 s = (x, s') := ⟨_, _, rfl⟩
            have E2 := Aside0.mk e2
            have E3 := Aside0.mk e3
            clear e2 e3
            go_wp2_with (fail)
            refine (takeI' E2 _ (HT.out) (by decide)).mono ?_
            rintro e v1 ⟨rfl, t1, c1⟩
            have M1 := c1.blk (HMB.out) rg2
            have B1 := c1.blk (HRB.out) (Nat.ne_of_lt hrg)
            have K1 := Ch.then_ (HC.out) c1 (fun k hk hs => absurd hk (by rw [show k = w1.heap.size from hs]; omega))
            have f1 := Aside0.mk t1
            have MM1 := Aside0.mk M1
            have BB1 := Aside0.mk B1
            have KK1 := Aside0.mk K1
            clear t1 c1 M1 B1 K1
            have x1_10 := (blk_cell (MM1.out) 10).trans rfl
            have y1_10 := blk_frozen (MM1.out) 10
            go_wp2_with (fail)
            refine (takeI' E3 _ (Tk.far (f1.out) hl2 (i := 10) (.int .i64 x)) (by decide)).mono ?_
            rintro e v2 ⟨rfl, t2, c2⟩
            have M2 := c2.blk (blk_put (MM1.out) 10 (.int .i64 x) rfl) rg2
            have B2 := c2.blk (blk_far (p := ⟨w2.heap.size, 10, none⟩) (BB1.out) rg3 (.int .i64 x)) (Nat.ne_of_lt hrg)
            have K2 := Ch.then_ (Ch.set (p := ⟨w2.heap.size, 10, none⟩) (KK1.out) (fun h => absurd h (by show ¬ w2.heap.size < _; omega)) (.int .i64 x)) c2 (fun k hk hs => absurd hk (by rw [show k = w1.heap.size from hs]; omega))
            have f2 := Aside0.mk t2
            have MM2 := Aside0.mk M2
            have BB2 := Aside0.mk B2
            have KK2 := Aside0.mk K2
            clear t2 c2 M2 B2 K2
            have x2_11 := (blk_cell (MM2.out) 11).trans rfl
            have y2_11 := blk_frozen (MM2.out) 11
            go_wp2_with (fail)
            go_meet
            case rel => exact ⟨{ zero with k := 6, d := x, m := x' }, s', ⟨by unfold decM; rw [E1.out]; simp [E2.out, E3.out]⟩, ⟨Tk.far (f2.out) hl2 (i := 11) (.int .i64 x')⟩, ⟨blk_put (MM2.out) 11 (.int .i64 x') rfl⟩, ⟨blk_far (p := ⟨w2.heap.size, 11, none⟩) (BB2.out) rg3 (.int .i64 x')⟩, ⟨Ch.set (p := ⟨w2.heap.size, 11, none⟩) (KK2.out) (fun h => absurd h (by show ¬ w2.heap.size < _; omega)) (.int .i64 x')⟩⟩
          · have b0 : (k == 0) = false := beq_eq_false_iff_ne.mpr k0
            have b1 : (k == 1) = false := beq_eq_false_iff_ne.mpr k1
            have b3 : (k == 3) = false := beq_eq_false_iff_ne.mpr k3
            have b2 : (k == 2) = false := beq_eq_false_iff_ne.mpr k2
            have b6 : (k == 6) = false := beq_eq_false_iff_ne.mpr k6
            have hd : decM l = ({ zero with k := k }, s1) := by unfold decM; rw [E1.out]; simp only [k0, k1, k3, k2, k6, if_false, or_self]
            have HD := Aside0.mk hd
            clear hd k0 k1 k3 k2 k6
            go_wp2_with (fail)
            go_meet
            case rel => exact ⟨{ zero with k := k }, s1, ⟨HD.out⟩, ⟨HT.out⟩, ⟨HMB.out⟩, ⟨HRB.out⟩, ⟨HC.out⟩⟩
 case rest =>
  obtain ⟨m, s, HD, HT, HMB, HRB, HC⟩ := hcut
  obtain ⟨zf, hf⟩ := HT.out.flag
  obtain ⟨⟨r0, r1, r2, r3, r4, r5, r6, r7, r8, r9, r10, r11⟩, y0, y1, y2, y3, y4, y5, y6, y7, y8, y9, y10, y11⟩ := blk_all12 HRB.out
  obtain ⟨⟨m0, m1, m2, m3, m4, m5, m6, m7, m8, m9, m10, m11⟩, -⟩ := blk_all12 (show _ = some (Obj.cells #[.int .i64 m.k, .int .i64 m.a, .int .i64 m.s, .bool m.b, .int .i64 m.p, .int .i64 m.q, .int .i64 m.n, .int .i64 m.t, .int .i64 m.i, .int .i64 m.y, .int .i64 m.d, .int .i64 m.m] 30 (0, 0)) from HMB.out)
  rcases hf with ⟨rfl, f1⟩ | ⟨r, rfl, f1⟩
  · have HDD : Aside0 (dec l = none) := ⟨by unfold dec; rw [HD.out]⟩
    go_wp2_with (fail)
    refine bodyPost_ret (results_ctt rfl _ _ w.heap.size 30 #[.int .i64 0, .int .i64 0, .int .i64 0, .bool false, .int .i64 0, .int .i64 0, .int .i64 0, .int .i64 0, .int .i64 0, .int .i64 0, .int .i64 0, .int .i64 0] (0, 0) _ rfl (by exact blk_put (cs' := #[.int .i64 0, .int .i64 0, .int .i64 0, .bool false, .int .i64 0, .int .i64 0, .int .i64 0, .int .i64 0, .int .i64 0, .int .i64 0, .int .i64 0, .int .i64 0]) (blk_put (cs' := #[.int .i64 0, .int .i64 0, .int .i64 0, .bool false, .int .i64 0, .int .i64 0, .int .i64 0, .int .i64 0, .int .i64 0, .int .i64 0, .int .i64 0, .int .i64 0]) (blk_put (cs' := #[.int .i64 0, .int .i64 0, .int .i64 0, .bool false, .int .i64 0, .int .i64 0, .int .i64 0, .int .i64 0, .int .i64 0, .int .i64 0, .int .i64 0, .int .i64 0]) (blk_put (cs' := #[.int .i64 0, .int .i64 0, .int .i64 0, .bool false, .int .i64 0, .int .i64 0, .int .i64 0, .int .i64 0, .int .i64 0, .int .i64 0, .int .i64 0, .int .i64 0]) (blk_put (cs' := #[.int .i64 0, .int .i64 0, .int .i64 0, .bool false, .int .i64 0, .int .i64 0, .int .i64 0, .int .i64 0, .int .i64 0, .int .i64 0, .int .i64 0, .int .i64 0]) (blk_put (cs' := #[.int .i64 0, .int .i64 0, .int .i64 0, .bool false, .int .i64 0, .int .i64 0, .int .i64 0, .int .i64 0, .int .i64 0, .int .i64 0, .int .i64 0, .int .i64 0]) (blk_put (cs' := #[.int .i64 0, .int .i64 0, .int .i64 0, .bool false, .int .i64 0, .int .i64 0, .int .i64 0, .int .i64 0, .int .i64 0, .int .i64 0, .int .i64 0, .int .i64 0]) (blk_put (cs' := #[.int .i64 0, .int .i64 0, .int .i64 0, .bool false, .int .i64 0, .int .i64 0, .int .i64 0, .int .i64 0, .int .i64 0, .int .i64 0, .int .i64 0, .int .i64 0]) (blk_put (cs' := #[.int .i64 0, .int .i64 0, .int .i64 0, .bool false, .int .i64 0, .int .i64 0, .int .i64 0, .int .i64 0, .int .i64 0, .int .i64 0, .int .i64 0, .int .i64 0]) (blk_put (cs' := #[.int .i64 0, .int .i64 0, .int .i64 0, .bool false, .int .i64 0, .int .i64 0, .int .i64 0, .int .i64 0, .int .i64 0, .int .i64 0, .int .i64 0, .int .i64 0]) (blk_put (cs' := #[.int .i64 0, .int .i64 0, .int .i64 0, .bool false, .int .i64 0, .int .i64 0, .int .i64 0, .int .i64 0, .int .i64 0, .int .i64 0, .int .i64 0, .int .i64 0]) (blk_put (cs' := #[.int .i64 0, .int .i64 0, .int .i64 0, .bool false, .int .i64 0, .int .i64 0, .int .i64 0, .int .i64 0, .int .i64 0, .int .i64 0, .int .i64 0, .int .i64 0]) (HRB.out) 0 (.int .i64 0) rfl) 1 (.int .i64 0) rfl) 2 (.int .i64 0) rfl) 3 (.bool false) rfl) 4 (.int .i64 0) rfl) 5 (.int .i64 0) rfl) 6 (.int .i64 0) rfl) 7 (.int .i64 0) rfl) 8 (.int .i64 0) rfl) 9 (.int .i64 0) rfl) 10 (.int .i64 0) rfl) 11 (.int .i64 0) rfl) Try.underlying30 rfl (by kernel_rfl)) rfl ?_
    exact ⟨⟨fun _ => rfl, (fun m' r' h => by rw [HDD.out] at h; cases h)⟩, (Ch.set (p := ⟨w.heap.size, 11, none⟩) (Ch.set (p := ⟨w.heap.size, 10, none⟩) (Ch.set (p := ⟨w.heap.size, 9, none⟩) (Ch.set (p := ⟨w.heap.size, 8, none⟩) (Ch.set (p := ⟨w.heap.size, 7, none⟩) (Ch.set (p := ⟨w.heap.size, 6, none⟩) (Ch.set (p := ⟨w.heap.size, 5, none⟩) (Ch.set (p := ⟨w.heap.size, 4, none⟩) (Ch.set (p := ⟨w.heap.size, 3, none⟩) (Ch.set (p := ⟨w.heap.size, 2, none⟩) (Ch.set (p := ⟨w.heap.size, 1, none⟩) (Ch.set (p := ⟨w.heap.size, 0, none⟩) (HC.out) (fun h => absurd h (by show ¬ w.heap.size < _; omega)) (.int .i64 0)) (fun h => absurd h (by show ¬ w.heap.size < _; omega)) (.int .i64 0)) (fun h => absurd h (by show ¬ w.heap.size < _; omega)) (.int .i64 0)) (fun h => absurd h (by show ¬ w.heap.size < _; omega)) (.bool false)) (fun h => absurd h (by show ¬ w.heap.size < _; omega)) (.int .i64 0)) (fun h => absurd h (by show ¬ w.heap.size < _; omega)) (.int .i64 0)) (fun h => absurd h (by show ¬ w.heap.size < _; omega)) (.int .i64 0)) (fun h => absurd h (by show ¬ w.heap.size < _; omega)) (.int .i64 0)) (fun h => absurd h (by show ¬ w.heap.size < _; omega)) (.int .i64 0)) (fun h => absurd h (by show ¬ w.heap.size < _; omega)) (.int .i64 0)) (fun h => absurd h (by show ¬ w.heap.size < _; omega)) (.int .i64 0)) (fun h => absurd h (by show ¬ w.heap.size < _; omega)) (.int .i64 0)).below0⟩
  · by_cases h6 : 6 < m.k
    · have h6b := decide_eq_true h6
      have HDD : Aside0 (dec l = none) := ⟨by unfold dec; rw [HD.out]; exact if_pos h6⟩
      go_wp2_with (fail)
      refine bodyPost_ret (results_ctt rfl _ _ w.heap.size 30 #[.int .i64 0, .int .i64 0, .int .i64 0, .bool false, .int .i64 0, .int .i64 0, .int .i64 0, .int .i64 0, .int .i64 0, .int .i64 0, .int .i64 0, .int .i64 0] (0, 0) _ rfl (by exact blk_put (cs' := #[.int .i64 0, .int .i64 0, .int .i64 0, .bool false, .int .i64 0, .int .i64 0, .int .i64 0, .int .i64 0, .int .i64 0, .int .i64 0, .int .i64 0, .int .i64 0]) (blk_put (cs' := #[.int .i64 0, .int .i64 0, .int .i64 0, .bool false, .int .i64 0, .int .i64 0, .int .i64 0, .int .i64 0, .int .i64 0, .int .i64 0, .int .i64 0, .int .i64 0]) (blk_put (cs' := #[.int .i64 0, .int .i64 0, .int .i64 0, .bool false, .int .i64 0, .int .i64 0, .int .i64 0, .int .i64 0, .int .i64 0, .int .i64 0, .int .i64 0, .int .i64 0]) (blk_put (cs' := #[.int .i64 0, .int .i64 0, .int .i64 0, .bool false, .int .i64 0, .int .i64 0, .int .i64 0, .int .i64 0, .int .i64 0, .int .i64 0, .int .i64 0, .int .i64 0]) (blk_put (cs' := #[.int .i64 0, .int .i64 0, .int .i64 0, .bool false, .int .i64 0, .int .i64 0, .int .i64 0, .int .i64 0, .int .i64 0, .int .i64 0, .int .i64 0, .int .i64 0]) (blk_put (cs' := #[.int .i64 0, .int .i64 0, .int .i64 0, .bool false, .int .i64 0, .int .i64 0, .int .i64 0, .int .i64 0, .int .i64 0, .int .i64 0, .int .i64 0, .int .i64 0]) (blk_put (cs' := #[.int .i64 0, .int .i64 0, .int .i64 0, .bool false, .int .i64 0, .int .i64 0, .int .i64 0, .int .i64 0, .int .i64 0, .int .i64 0, .int .i64 0, .int .i64 0]) (blk_put (cs' := #[.int .i64 0, .int .i64 0, .int .i64 0, .bool false, .int .i64 0, .int .i64 0, .int .i64 0, .int .i64 0, .int .i64 0, .int .i64 0, .int .i64 0, .int .i64 0]) (blk_put (cs' := #[.int .i64 0, .int .i64 0, .int .i64 0, .bool false, .int .i64 0, .int .i64 0, .int .i64 0, .int .i64 0, .int .i64 0, .int .i64 0, .int .i64 0, .int .i64 0]) (blk_put (cs' := #[.int .i64 0, .int .i64 0, .int .i64 0, .bool false, .int .i64 0, .int .i64 0, .int .i64 0, .int .i64 0, .int .i64 0, .int .i64 0, .int .i64 0, .int .i64 0]) (blk_put (cs' := #[.int .i64 0, .int .i64 0, .int .i64 0, .bool false, .int .i64 0, .int .i64 0, .int .i64 0, .int .i64 0, .int .i64 0, .int .i64 0, .int .i64 0, .int .i64 0]) (blk_put (cs' := #[.int .i64 0, .int .i64 0, .int .i64 0, .bool false, .int .i64 0, .int .i64 0, .int .i64 0, .int .i64 0, .int .i64 0, .int .i64 0, .int .i64 0, .int .i64 0]) (HRB.out) 0 (.int .i64 0) rfl) 1 (.int .i64 0) rfl) 2 (.int .i64 0) rfl) 3 (.bool false) rfl) 4 (.int .i64 0) rfl) 5 (.int .i64 0) rfl) 6 (.int .i64 0) rfl) 7 (.int .i64 0) rfl) 8 (.int .i64 0) rfl) 9 (.int .i64 0) rfl) 10 (.int .i64 0) rfl) 11 (.int .i64 0) rfl) Try.underlying30 rfl (by kernel_rfl)) rfl ?_
      exact ⟨⟨fun _ => rfl, (fun m' r' h => by rw [HDD.out] at h; cases h)⟩, (Ch.set (p := ⟨w.heap.size, 11, none⟩) (Ch.set (p := ⟨w.heap.size, 10, none⟩) (Ch.set (p := ⟨w.heap.size, 9, none⟩) (Ch.set (p := ⟨w.heap.size, 8, none⟩) (Ch.set (p := ⟨w.heap.size, 7, none⟩) (Ch.set (p := ⟨w.heap.size, 6, none⟩) (Ch.set (p := ⟨w.heap.size, 5, none⟩) (Ch.set (p := ⟨w.heap.size, 4, none⟩) (Ch.set (p := ⟨w.heap.size, 3, none⟩) (Ch.set (p := ⟨w.heap.size, 2, none⟩) (Ch.set (p := ⟨w.heap.size, 1, none⟩) (Ch.set (p := ⟨w.heap.size, 0, none⟩) (HC.out) (fun h => absurd h (by show ¬ w.heap.size < _; omega)) (.int .i64 0)) (fun h => absurd h (by show ¬ w.heap.size < _; omega)) (.int .i64 0)) (fun h => absurd h (by show ¬ w.heap.size < _; omega)) (.int .i64 0)) (fun h => absurd h (by show ¬ w.heap.size < _; omega)) (.bool false)) (fun h => absurd h (by show ¬ w.heap.size < _; omega)) (.int .i64 0)) (fun h => absurd h (by show ¬ w.heap.size < _; omega)) (.int .i64 0)) (fun h => absurd h (by show ¬ w.heap.size < _; omega)) (.int .i64 0)) (fun h => absurd h (by show ¬ w.heap.size < _; omega)) (.int .i64 0)) (fun h => absurd h (by show ¬ w.heap.size < _; omega)) (.int .i64 0)) (fun h => absurd h (by show ¬ w.heap.size < _; omega)) (.int .i64 0)) (fun h => absurd h (by show ¬ w.heap.size < _; omega)) (.int .i64 0)) (fun h => absurd h (by show ¬ w.heap.size < _; omega)) (.int .i64 0)).below0⟩
    · have h6b := decide_eq_false h6
      have HDD : Aside0 (dec l = some (m, r)) := ⟨by unfold dec; rw [HD.out]; exact if_neg h6⟩
      obtain ⟨A3, c3, hb3, hc3, hB3, hF3⟩ := HT.out.good
      have g0 := (blk_cell hb3 0).trans rfl
      have HF3 := Aside0.mk hF3
      clear hb3 hF3
      have rg5 : w.heap.size ≠ w1.heap.size := Nat.ne_of_lt hrg
      have rg6 : w1.heap.size ≠ w.heap.size := Nat.ne_of_gt hrg
      go_wp2_with (fail)
      go_region_held3 (fun w' => w'.cell? ⟨w2.heap.size, 0, none⟩ = some (.int .i64 m.k) ∧ w'.cell? ⟨w2.heap.size, 1, none⟩ = some (.int .i64 m.a) ∧ w'.cell? ⟨w2.heap.size, 2, none⟩ = some (.int .i64 m.s) ∧ w'.cell? ⟨w2.heap.size, 3, none⟩ = some (.bool m.b) ∧ w'.cell? ⟨w2.heap.size, 4, none⟩ = some (.int .i64 m.p) ∧ w'.cell? ⟨w2.heap.size, 5, none⟩ = some (.int .i64 m.q) ∧ w'.cell? ⟨w2.heap.size, 6, none⟩ = some (.int .i64 m.n) ∧ w'.cell? ⟨w2.heap.size, 7, none⟩ = some (.int .i64 m.t) ∧ w'.cell? ⟨w2.heap.size, 8, none⟩ = some (.int .i64 m.i) ∧ w'.cell? ⟨w2.heap.size, 9, none⟩ = some (.int .i64 m.y) ∧ w'.cell? ⟨w2.heap.size, 10, none⟩ = some (.int .i64 m.d) ∧ w'.cell? ⟨w2.heap.size, 11, none⟩ = some (.int .i64 m.m) ∧ w'.cell? ⟨w1.heap.size, 0, none⟩ = some (.slice A3 r.length c3)) (go_keep) (fail)
      go_wp2
      refine bodyPost_ret (results_ctt rfl _ _ w.heap.size 30 #[.int .i64 m.k, .int .i64 m.a, .int .i64 m.s, .bool m.b, .int .i64 m.p, .int .i64 m.q, .int .i64 m.n, .int .i64 m.t, .int .i64 m.i, .int .i64 m.y, .int .i64 m.d, .int .i64 m.m] (0, 0) _ rfl (by exact blk_drew (blk_put (cs' := #[.int .i64 m.k, .int .i64 m.a, .int .i64 m.s, .bool m.b, .int .i64 m.p, .int .i64 m.q, .int .i64 m.n, .int .i64 m.t, .int .i64 m.i, .int .i64 m.y, .int .i64 m.d, .int .i64 m.m]) (blk_put (cs' := #[.int .i64 m.k, .int .i64 m.a, .int .i64 m.s, .bool m.b, .int .i64 m.p, .int .i64 m.q, .int .i64 m.n, .int .i64 m.t, .int .i64 m.i, .int .i64 m.y, .int .i64 m.d, .int .i64 0]) (blk_put (cs' := #[.int .i64 m.k, .int .i64 m.a, .int .i64 m.s, .bool m.b, .int .i64 m.p, .int .i64 m.q, .int .i64 m.n, .int .i64 m.t, .int .i64 m.i, .int .i64 m.y, .int .i64 0, .int .i64 0]) (blk_put (cs' := #[.int .i64 m.k, .int .i64 m.a, .int .i64 m.s, .bool m.b, .int .i64 m.p, .int .i64 m.q, .int .i64 m.n, .int .i64 m.t, .int .i64 m.i, .int .i64 0, .int .i64 0, .int .i64 0]) (blk_put (cs' := #[.int .i64 m.k, .int .i64 m.a, .int .i64 m.s, .bool m.b, .int .i64 m.p, .int .i64 m.q, .int .i64 m.n, .int .i64 m.t, .int .i64 0, .int .i64 0, .int .i64 0, .int .i64 0]) (blk_put (cs' := #[.int .i64 m.k, .int .i64 m.a, .int .i64 m.s, .bool m.b, .int .i64 m.p, .int .i64 m.q, .int .i64 m.n, .int .i64 0, .int .i64 0, .int .i64 0, .int .i64 0, .int .i64 0]) (blk_put (cs' := #[.int .i64 m.k, .int .i64 m.a, .int .i64 m.s, .bool m.b, .int .i64 m.p, .int .i64 m.q, .int .i64 0, .int .i64 0, .int .i64 0, .int .i64 0, .int .i64 0, .int .i64 0]) (blk_put (cs' := #[.int .i64 m.k, .int .i64 m.a, .int .i64 m.s, .bool m.b, .int .i64 m.p, .int .i64 0, .int .i64 0, .int .i64 0, .int .i64 0, .int .i64 0, .int .i64 0, .int .i64 0]) (blk_put (cs' := #[.int .i64 m.k, .int .i64 m.a, .int .i64 m.s, .bool m.b, .int .i64 0, .int .i64 0, .int .i64 0, .int .i64 0, .int .i64 0, .int .i64 0, .int .i64 0, .int .i64 0]) (blk_put (cs' := #[.int .i64 m.k, .int .i64 m.a, .int .i64 m.s, .bool false, .int .i64 0, .int .i64 0, .int .i64 0, .int .i64 0, .int .i64 0, .int .i64 0, .int .i64 0, .int .i64 0]) (blk_put (cs' := #[.int .i64 m.k, .int .i64 m.a, .int .i64 0, .bool false, .int .i64 0, .int .i64 0, .int .i64 0, .int .i64 0, .int .i64 0, .int .i64 0, .int .i64 0, .int .i64 0]) (blk_put (cs' := #[.int .i64 m.k, .int .i64 0, .int .i64 0, .bool false, .int .i64 0, .int .i64 0, .int .i64 0, .int .i64 0, .int .i64 0, .int .i64 0, .int .i64 0, .int .i64 0]) (HRB.out) 0 (.int .i64 m.k) rfl) 1 (.int .i64 m.a) rfl) 2 (.int .i64 m.s) rfl) 3 (.bool m.b) rfl) 4 (.int .i64 m.p) rfl) 5 (.int .i64 m.q) rfl) 6 (.int .i64 m.n) rfl) 7 (.int .i64 m.t) rfl) 8 (.int .i64 m.i) rfl) 9 (.int .i64 m.y) rfl) 10 (.int .i64 m.d) rfl) 11 (.int .i64 m.m) rfl)) Try.underlying30 rfl (by kernel_rfl)) rfl ?_
      refine ⟨⟨(fun h => by rw [HDD.out] at h; cases h), fun m2 r2 h => ?_⟩, (Ch.drew (Ch.set (p := ⟨w.heap.size, 11, none⟩) (Ch.set (p := ⟨w.heap.size, 10, none⟩) (Ch.set (p := ⟨w.heap.size, 9, none⟩) (Ch.set (p := ⟨w.heap.size, 8, none⟩) (Ch.set (p := ⟨w.heap.size, 7, none⟩) (Ch.set (p := ⟨w.heap.size, 6, none⟩) (Ch.set (p := ⟨w.heap.size, 5, none⟩) (Ch.set (p := ⟨w.heap.size, 4, none⟩) (Ch.set (p := ⟨w.heap.size, 3, none⟩) (Ch.set (p := ⟨w.heap.size, 2, none⟩) (Ch.set (p := ⟨w.heap.size, 1, none⟩) (Ch.set (p := ⟨w.heap.size, 0, none⟩) (HC.out) (fun h => absurd h (by show ¬ w.heap.size < _; omega)) (.int .i64 m.k)) (fun h => absurd h (by show ¬ w.heap.size < _; omega)) (.int .i64 m.a)) (fun h => absurd h (by show ¬ w.heap.size < _; omega)) (.int .i64 m.s)) (fun h => absurd h (by show ¬ w.heap.size < _; omega)) (.bool m.b)) (fun h => absurd h (by show ¬ w.heap.size < _; omega)) (.int .i64 m.p)) (fun h => absurd h (by show ¬ w.heap.size < _; omega)) (.int .i64 m.q)) (fun h => absurd h (by show ¬ w.heap.size < _; omega)) (.int .i64 m.n)) (fun h => absurd h (by show ¬ w.heap.size < _; omega)) (.int .i64 m.t)) (fun h => absurd h (by show ¬ w.heap.size < _; omega)) (.int .i64 m.i)) (fun h => absurd h (by show ¬ w.heap.size < _; omega)) (.int .i64 m.y)) (fun h => absurd h (by show ¬ w.heap.size < _; omega)) (.int .i64 m.d)) (fun h => absurd h (by show ¬ w.heap.size < _; omega)) (.int .i64 m.m))).below0⟩
      rw [HDD.out] at h
      cases h
      exact ⟨A3, c3, rfl, hc3, hB3, Kd.F_mono (Ch.foot (Ch.drew (Ch.set (p := ⟨w.heap.size, 11, none⟩) (Ch.set (p := ⟨w.heap.size, 10, none⟩) (Ch.set (p := ⟨w.heap.size, 9, none⟩) (Ch.set (p := ⟨w.heap.size, 8, none⟩) (Ch.set (p := ⟨w.heap.size, 7, none⟩) (Ch.set (p := ⟨w.heap.size, 6, none⟩) (Ch.set (p := ⟨w.heap.size, 5, none⟩) (Ch.set (p := ⟨w.heap.size, 4, none⟩) (Ch.set (p := ⟨w.heap.size, 3, none⟩) (Ch.set (p := ⟨w.heap.size, 2, none⟩) (Ch.set (p := ⟨w.heap.size, 1, none⟩) (Ch.set (p := ⟨w.heap.size, 0, none⟩) (Ch.refl (one w.heap.size) wc) (fun _ => rfl) (.int .i64 m.k)) (fun _ => rfl) (.int .i64 m.a)) (fun _ => rfl) (.int .i64 m.s)) (fun _ => rfl) (.bool m.b)) (fun _ => rfl) (.int .i64 m.p)) (fun _ => rfl) (.int .i64 m.q)) (fun _ => rfl) (.int .i64 m.n)) (fun _ => rfl) (.int .i64 m.t)) (fun _ => rfl) (.int .i64 m.i)) (fun _ => rfl) (.int .i64 m.y)) (fun _ => rfl) (.int .i64 m.d)) (fun _ => rfl) (.int .i64 m.m))) HF3.out (fun k hk e => by have h1 : w.heap.size + 1 ≤ k := hk.1; have h2 : k = w.heap.size := e; omega)) (fun k hk => Nat.le_of_succ_le hk.1)⟩
end Go.Proofs.Ytgikjgekdeaneaa.Wire
