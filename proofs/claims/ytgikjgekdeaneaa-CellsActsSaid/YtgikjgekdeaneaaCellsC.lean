/- The law CellsActs walked, by hand. -/
import Derived.Test.YtgikjgekdeaneaaCellsB
namespace Go.Proofs.Ytgikjgekdeaneaa.Cells
open Go.RowKit Go.Proofs.Ytgikjgekdeaneaa.QCellsNews Go.Proofs.YtgikjgekdeaneaaW.PrintWords Go.Proofs.YtgikjgekdeaneaaW.PrintLast Go.Proofs.YtgikjgekdeaneaaW.PrintMore
set_option linter.unusedVariables false
set_option linter.unusedSimpArgs false
structure S50 where
 f0 : Int
 f1 : Int
 f2 : Int
 f3 : Int
 f4 : Int
def z50 : S50 := ⟨0, 0, 0, 0, 0⟩
def k50 : Kd S50 := Kd.iso (Kd.pair (Kd.int .i64) (Kd.pair (Kd.int .i64) (Kd.pair (Kd.int .i64) (Kd.pair (Kd.int .i64) (Kd.int .i64))))) (fun x : S50 => (x.f0, x.f1, x.f2, x.f3, x.f4))
theorem k50_open {w : World} {x : S50} {cs : List Value} (h : k50.K w x cs) : cs = [.int .i64 x.f0, .int .i64 x.f1, .int .i64 x.f2, .int .i64 x.f3, .int .i64 x.f4] := by
 obtain ⟨_, _, rfl, rfl, _, _, rfl, rfl, _, _, rfl, rfl, _, _, rfl, rfl, rfl⟩ := h
 exact rfl
def rd50 (xs : List S50) (i : Int) : S50 := xs.getD i.toNat z50
theorem at50 {w : World} {A : Option Addr} {n : Nat} {xs : List S50} (h : Kd.C k50 w A n xs) (i : Int) (h0 : 0 ≤ i) (h1 : i < n) : ∃ ad, A = some ad ∧ w.cell? (ad.add (i.toNat * 5)) = some (.int .i64 (rd50 xs i).f0) ∧ w.cell? ⟨(ad.add (i.toNat * 5)).block, (ad.add (i.toNat * 5)).off + 1, none⟩ = some (.int .i64 (rd50 xs i).f1) ∧ w.cell? ⟨(ad.add (i.toNat * 5)).block, (ad.add (i.toNat * 5)).off + 2, none⟩ = some (.int .i64 (rd50 xs i).f2) ∧ w.cell? ⟨(ad.add (i.toNat * 5)).block, (ad.add (i.toNat * 5)).off + 3, none⟩ = some (.int .i64 (rd50 xs i).f3) ∧ w.cell? ⟨(ad.add (i.toNat * 5)).block, (ad.add (i.toNat * 5)).off + 4, none⟩ = some (.int .i64 (rd50 xs i).f4) := by
 obtain ⟨ad, c, e, _, hK, hc0⟩ := Kd.C_get h z50 i h0 h1
 have hc : ∀ j u, c[j]? = some u → w.cell? (ad.add (i.toNat * 5 + j)) = some u := hc0
 obtain rfl := k50_open hK
 exact ⟨ad, e, hc 0 _ rfl, by rw [← add_field _ _ 1 (by omega)]; exact hc 1 _ rfl, by rw [← add_field _ _ 2 (by omega)]; exact hc 2 _ rfl, by rw [← add_field _ _ 3 (by omega)]; exact hc 3 _ rfl, by rw [← add_field _ _ 4 (by omega)]; exact hc 4 _ rfl⟩
theorem quiet0 {P : Program} {f : FuncId} {args : Array Value} {w : World} {n : Nat} {v : Value} (h : Calls P f args (w.drewN n) fun e w' => e = .returned v ∧ Drawn0 (w.drewN n) w') : Calls P f args (w.drewN n) fun e w'' => e = .returned v ∧ ∃ m, w'' = w.drewN m :=
  Calls.quiet_of (h.mono fun _ _ ⟨he, hd⟩ => ⟨he, hd.out⟩)
theorem new_43 (w : World) : Calls Try.prog 24 #[.int .i64 4, .int .i64 3] w fun e w' => ∃ g gw gl, e = .returned (.tuple #[.pointer (some ⟨g, 0, none⟩), .int .i64 0]) ∧ Did w.heap.size 137 w w' g gw gl [0, 0, 0, 0] [-1, -1, -1] 0 := new_yes 4 3 w (by decide) (by decide)
/-- Both, beside each other, and nothing else turned. -/
structure Two (W w : World) (g gw gl h hw hl : Nat) (ws ls : List Int) (t : Int) : Prop where
  a : Cs W.heap.size 137 w g gw gl ws ls t
  b : Cs W.heap.size 59 w h hw hl ws ls t
  bel : Below W.heap.size W w
  ne : ∃ m, (g < m ∧ gw < m ∧ gl < m) ∧ (m ≤ h ∧ m ≤ hw ∧ m ≤ hl)
  len : ws.length = 4 ∧ ls.length = 3
theorem Row.ko {w w1 : World} {k : IntKind} {b g gw gl : Nat} {xs : List Int} (h : Row w k b xs) (hk : Ko g gw gl w w1) (h1 : b ≠ g) (h2 : b ≠ gw) (h3 : b ≠ gl) : Row w1 k b xs := by
  obtain ⟨t, h⟩ := h
  exact ⟨t, (hk b (blk_lt h) h1 h2 h3).trans h⟩
theorem Cs.ko {n : Nat} {T : TypeId} {w w1 : World} {g gw gl h hw hl : Nat} {ws ls : List Int} {t : Int} (c : Cs n T w h hw hl ws ls t) (hk : Ko g gw gl w w1) (h1 : h ≠ g ∧ h ≠ gw ∧ h ≠ gl) (h2 : hw ≠ g ∧ hw ≠ gw ∧ hw ≠ gl) (h3 : hl ≠ g ∧ hl ≠ gw ∧ hl ≠ gl) : Cs n T w1 h hw hl ws ls t :=
  ⟨(hk h (blk_lt c.st) h1.1 h1.2.1 h1.2.2).trans c.st, c.wo.ko hk h2.1 h2.2.1 h2.2.2, c.la.ko hk h3.1 h3.2.1 h3.2.2, c.lo, c.ap⟩
section
variable {W w : World} {g gw gl h hw hl : Nat} {ws ls : List Int} {t : Int}
theorem Two.alloc (c : Two W w g gw gl h hw hl ws ls t) (o : Obj) : Two W (w.alloc o) g gw gl h hw hl ws ls t := ⟨c.a.alloc o, c.b.alloc o, c.bel.alloc c.bel.size o, c.ne, c.len⟩
theorem Two.drewN (c : Two W w g gw gl h hw hl ws ls t) (m : Nat) : Two W (w.drewN m) g gw gl h hw hl ws ls t := ⟨c.a.drewN m, c.b.drewN m, pw_below_drewN c.bel m, c.ne, c.len⟩
/-- The first went on: the other is as it was. -/
theorem Two.mid {w1 : World} {ws' ls' : List Int} {t' : Int} (c : Two W w g gw gl h hw hl ws ls t) (d : Did W.heap.size 137 w w1 g gw gl ws' ls' t') : Cs W.heap.size 59 w1 h hw hl ws ls t := by
  obtain ⟨m, h1, h2⟩ := c.ne
  exact c.b.ko d.3 (by omega) (by omega) (by omega)
theorem Two.next {w1 w2 : World} {ws' ls' : List Int} {t' : Int} (c : Two W w g gw gl h hw hl ws ls t) (d : Did W.heap.size 137 w w1 g gw gl ws' ls' t') (e : Did W.heap.size 59 w1 w2 h hw hl ws' ls' t') (hl' : ws'.length = ws.length ∧ ls'.length = ls.length) : Two W w2 g gw gl h hw hl ws' ls' t' := by
  have cl := c.len
  obtain ⟨m, h1, h2⟩ := c.ne
  exact ⟨d.1.ko e.3 (by omega) (by omega) (by omega), e.1, (c.bel.trans d.2).trans e.2, ⟨m, h1, h2⟩, by omega⟩
end
theorem peek_in {n g gw gl : Nat} {ws ls : List Int} {t : Int} (i : Int) (w : World) (h : Cs n 137 w g gw gl ws ls t) (hi : 0 ≤ i ∧ i < ws.length) : Calls Try.prog 30 #[.pointer (some ⟨g, 0, none⟩), .int .i64 i] w fun e w' => e = .returned (.int .i64 (rd ws i)) ∧ Drawn0 w w' := by
  have := peek i w h
  rwa [if_pos hi] at this
theorem peek_out {n g gw gl : Nat} {ws ls : List Int} {t : Int} (i : Int) (w : World) (h : Cs n 137 w g gw gl ws ls t) (hi : ¬ (0 ≤ i ∧ i < ws.length)) : Calls Try.prog 30 #[.pointer (some ⟨g, 0, none⟩), .int .i64 i] w fun e w' => e = .returned (.int .i64 0) ∧ Drawn0 w w' := by
  have := peek i w h
  rwa [if_neg hi] at this
theorem holder_in {n g gw gl : Nat} {ws ls : List Int} {t : Int} (i : Int) (w : World) (h : Cs n 137 w g gw gl ws ls t) (hi : 0 ≤ i ∧ i < ls.length) : Calls Try.prog 31 #[.pointer (some ⟨g, 0, none⟩), .int .i64 i] w fun e w' => e = .returned (.int .i64 (rd ls i)) ∧ Drawn0 w w' := by
  have := holder i w h
  rwa [if_pos hi] at this
theorem holder_out {n g gw gl : Nat} {ws ls : List Int} {t : Int} (i : Int) (w : World) (h : Cs n 137 w g gw gl ws ls t) (hi : ¬ (0 ≤ i ∧ i < ls.length)) : Calls Try.prog 31 #[.pointer (some ⟨g, 0, none⟩), .int .i64 i] w fun e w' => e = .returned (.int .i64 (-1)) ∧ Drawn0 w w' := by
  have := holder i w h
  rwa [if_neg hi] at this
set_option maxHeartbeats 8000000 in
set_option maxRecDepth 100000 in
theorem acts (A0 : Option Addr) (c0 : Nat) (l0 : List S50) (w : World) (hr0 : Kd.C k50 w A0 l0.length l0) (hc0 : l0.length ≤ c0) : Calls Try.prog 5 #[.slice A0 l0.length c0] w fun e w' => e = .returned (.bool true) ∧ Below w.heap.size w w' := by
 have HR := Aside0.mk hr0
 clear hr0
 go_enter Try.func5, Try.ntmps5
 go_wp2_with (first | (go_at_call 24; refine (new_43 _).mono ?_; rintro e w1 ⟨g, gw, gl, rfl, d0⟩) | (go_at_call 25; refine (rnew _).mono ?_; rintro e w2 ⟨h, hw, hl, rfl, d1⟩) | (go_at_call 26; refine (told _).mono ?_; rintro e w3 ⟨rfl, hb⟩))
 have c0 : Two w w3 g gw gl h hw hl [0, 0, 0, 0] [-1, -1, -1] 0 := ⟨(d0.1.below d1.2).below hb, ⟨blk_below d1.1.st hb, d1.1.wo.below hb, d1.1.la.below hb, ⟨Nat.le_trans d0.2.size d1.1.lo.1, Nat.le_trans d0.2.size d1.1.lo.2.1, Nat.le_trans d0.2.size d1.1.lo.2.2⟩, d1.1.ap⟩, below_step (below_step d0.2 d1.2) hb, ⟨w1.heap.size, ⟨blk_lt d0.1.st, d0.1.wo.lt, d0.1.la.lt⟩, d1.1.lo⟩, rfl, rfl⟩
 clear d0 d1 hb
 go_loopg [6] (l0.length + 1) (fun kq v6 w' => ∃ (i : Int) (ws ls : List Int) (t : Int), v6 = .int .i64 i ∧ Aside0 ((l0.length : Int) + 1 ≤ kq + i ∧ 0 ≤ i ∧ i ≤ l0.length ∧ i ≤ 300) ∧ Aside0 (Two w w' g gw gl h hw hl ws ls t))
 case atStart => exact ⟨0, _, _, _, rfl, ⟨by omega⟩, ⟨by (repeat apply Two.drewN); exact c0⟩⟩
 case round =>
  obtain ⟨i, ws, ls, t, rfl, HM, HD⟩ := hrel
  have hm := HM.out
  clear c0
  by_cases c1 : i < l0.length
  · have c1b := decide_eq_true c1
    by_cases c2 : i < 300
    · have c2b := decide_eq_true c2
      have p0 : 0 ≤ i := hm.2.1
      obtain ⟨ad, e1, x0, x1, x2, x3, x4⟩ := at50 (Kd.C_below HR.out HD.out.bel) i p0 c1
      cases e1
      have hk : 0 ≤ (wrap64 (Int.tmod (IntKind.u64.wrap (rd50 l0 i).f0) 5)) ∧ (wrap64 (Int.tmod (IntKind.u64.wrap (rd50 l0 i).f0) 5)) < 5 := by
        have hu : 0 ≤ IntKind.u64.wrap (rd50 l0 i).f0 := by rw [show IntKind.u64.wrap (rd50 l0 i).f0 = (rd50 l0 i).f0 % 18446744073709551616 from rfl]; omega
        have h2 := Int.tmod_nonneg 5 hu
        have h3 := Int.tmod_lt_of_pos (IntKind.u64.wrap (rd50 l0 i).f0) (show (0 : Int) < 5 by omega)
        unfold wrap64; omega
      obtain ⟨x, b, ws', ls', t', hlen, hdo, href⟩ := both (wrap64 (Int.tmod (IntKind.u64.wrap (rd50 l0 i).f0) 5)) (rd50 l0 i).f1 (rd50 l0 i).f2 (rd50 l0 i).f3 (rd50 l0 i).f4 hk ws ls t
      replace p0 := eq_true p0
      have q0 := eq_true c1
      have e1 : wrap64 (i + 1) = i + 1 := by unfold wrap64; omega
      have HB1 := Aside0.mk hdo
      have HB2 := Aside0.mk href
      have HL := Aside0.mk hlen
      clear hdo href hlen hk
      have BX : (wr.alloc (.cells #[.int .i64 (wrap64 (Int.tmod (IntKind.u64.wrap (rd50 l0 i).f0) 5)), .int .i64 (rd50 l0 i).f1, .int .i64 (rd50 l0 i).f2, .int .i64 (rd50 l0 i).f3, .int .i64 (rd50 l0 i).f4] 50)).heap[wr.heap.size]? = some (.cells #[.int .i64 (wrap64 (Int.tmod (IntKind.u64.wrap (rd50 l0 i).f0) 5)), .int .i64 (rd50 l0 i).f1, .int .i64 (rd50 l0 i).f2, .int .i64 (rd50 l0 i).f3, .int .i64 (rd50 l0 i).f4] 50 (0, 0)) := heap_alloc_new wr _
      have C0 := Aside0.mk (HD.out.alloc (.cells #[.int .i64 (wrap64 (Int.tmod (IntKind.u64.wrap (rd50 l0 i).f0) 5)), .int .i64 (rd50 l0 i).f1, .int .i64 (rd50 l0 i).f2, .int .i64 (rd50 l0 i).f3, .int .i64 (rd50 l0 i).f4] 50))
      have BY := Aside0.mk BX
      clear BX
      have n1 : wr.heap.size ≠ g := by have := blk_lt HD.out.a.st; omega
      have n2 : wr.heap.size ≠ gw := by have := HD.out.a.wo.lt; omega
      have n3 : wr.heap.size ≠ gl := by have := HD.out.a.la.lt; omega
      go_wp2_with (fail)
      refine (HB1.out _ g gw gl _ C0.out.a).mono ?_
      rintro e w4 ⟨rfl, d0⟩
      have BZ := (d0.3 wr.heap.size (by simp) n1 n2 n3).trans BY.out
      have x0 := (blk_cell BZ 0).trans rfl
      have x1 := (blk_cell BZ 1).trans rfl
      have x2 := (blk_cell BZ 2).trans rfl
      have x3 := (blk_cell BZ 3).trans rfl
      have x4 := (blk_cell BZ 4).trans rfl
      have D0 := Aside0.mk d0
      clear d0 BZ BY
      go_wp2_with (fail)
      refine (HB2.out _ h hw hl _ (C0.out.mid D0.out)).mono ?_
      rintro e w5 ⟨rfl, d1⟩
      have c5 := C0.out.next D0.out d1 HL.out
      have C5 := Aside0.mk c5
      have f2 := (blk_cell c5.b.st 2).trans rfl
      clear c5 d1 D0 C0 n1 n2 n3
      have bb : (b != b) = false := by simp
      have bx : (x != x) = false := by simp
      have bt : (t' != t') = false := by simp
      go_wp2
      go_quiet ((go_at_call 29; exact quiet0 (time_ _ (C5.out.a.drewN _))))
      go_wp2
      obtain ⟨wo, ho⟩ : ∃ wo : World, wo = wr := ⟨_, rfl⟩
      go_loopg [12] 5 (fun kq v12 w' => ∃ (k : Int), v12 = .int .i64 k ∧ Aside0 ((5 : Int) ≤ kq + k ∧ 0 ≤ k ∧ k ≤ 4) ∧ Aside0 (Two w w' g gw gl h hw hl ws' ls' t'))
      case atStart => exact ⟨0, rfl, ⟨by omega⟩, ⟨by (repeat apply Two.drewN); exact C5.out⟩⟩
      case round =>
        obtain ⟨k, rfl, HM1, HD1⟩ := hrel
        have hk := HM1.out
        have hE := HD1.out.len
        have g0 := (blk_cell HD1.out.b.st 0).trans rfl
        have g1 := (blk_cell HD1.out.b.st 1).trans rfl
        have e2 : wrap64 (k + 1) = k + 1 := by unfold wrap64; omega
        have s0 := eq_true hk.2.1
        by_cases c3 : k < 4
        · have c3b := decide_eq_true c3
          have r0 := HD1.out.b.wo.at k (by omega) (by omega)
          have s1 := eq_true (show k < (ws'.length : Int) by omega)
          have sb : (rd ws' k != rd ws' k) = false := by simp
          by_cases c4 : k < 3
          · have c4b := decide_eq_true c4
            have r1 := HD1.out.b.la.at k (by omega) (by omega)
            have s2 := eq_true (show k < (ls'.length : Int) by omega)
            have sc : (rd ls' k != rd ls' k) = false := by simp
            clear hE
            go_wp2
            go_quiet (first | (go_at_call 30; exact quiet0 (peek_in _ _ (HD1.out.a.drewN _) (by have := HM1.out; have := HD1.out.len; omega))) | (go_at_call 31; exact quiet0 (holder_in _ _ (HD1.out.a.drewN _) (by have := HM1.out; have := HD1.out.len; omega))))
            go_wp2
            go_roundg ((4 : Int) - k).toNat
            case measure => omega
            case rel => exact ⟨k + 1, rfl, ⟨by omega⟩, ⟨by (repeat apply Two.drewN); exact HD1.out⟩⟩
          · have c4b := decide_eq_false c4
            clear hE
            go_wp2
            go_quiet ((go_at_call 30; exact quiet0 (peek_in _ _ (HD1.out.a.drewN _) (by have := HM1.out; have := HD1.out.len; omega))))
            go_wp2
            go_roundg ((4 : Int) - k).toNat
            case measure => omega
            case rel => exact ⟨k + 1, rfl, ⟨by omega⟩, ⟨by (repeat apply Two.drewN); exact HD1.out⟩⟩
        · have c3b := decide_eq_false c3
          go_wp2
          go_roundg ((l0.length : Int) - i).toNat
          case measure => omega
          case rel => exact ⟨i + 1, _, _, _, rfl, ⟨by omega⟩, ⟨by (repeat apply Two.drewN); exact HD1.out⟩⟩
    · have c2b := decide_eq_false c2
      have hE := HD.out.len
      have f2 := (blk_cell HD.out.b.st 2).trans rfl
      have bt : (t == t) = true := by simp
      go_wp2
      go_quiet (first | (go_at_call 30; exact quiet0 (peek_out _ _ (HD.out.a.drewN _) (by omega))) | (go_at_call 31; exact quiet0 (holder_out _ _ (HD.out.a.drewN _) (by omega))) | (go_at_call 29; exact quiet0 (time_ _ (HD.out.a.drewN _))))
      go_wp2
      go_ret
      exact ⟨rfl, by (repeat apply pw_below_drewN); exact HD.out.bel⟩
  · have c1b := decide_eq_false c1
    have hE := HD.out.len
    have f2 := (blk_cell HD.out.b.st 2).trans rfl
    have bt : (t == t) = true := by simp
    go_wp2
    go_quiet (first | (go_at_call 30; exact quiet0 (peek_out _ _ (HD.out.a.drewN _) (by omega))) | (go_at_call 31; exact quiet0 (holder_out _ _ (HD.out.a.drewN _) (by omega))) | (go_at_call 29; exact quiet0 (time_ _ (HD.out.a.drewN _))))
    go_wp2
    go_ret
    exact ⟨rfl, by (repeat apply pw_below_drewN); exact HD.out.bel⟩
end Go.Proofs.Ytgikjgekdeaneaa.Cells
