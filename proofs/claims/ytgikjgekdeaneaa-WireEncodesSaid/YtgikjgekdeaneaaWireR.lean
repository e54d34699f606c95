/- Wire: the reference's Decode by hand. -/
import Derived.Test.YtgikjgekdeaneaaWireD
namespace Go.Proofs.Ytgikjgekdeaneaa.Wire
open Go.RowKit Go.Proofs.Ytgikjgekdeaneaa.QWire Go.Proofs.YtgikjgekdeaneaaW.PrintWords Go.Proofs.YtgikjgekdeaneaaW.PrintLast Go.Proofs.YtgikjgekdeaneaaW.PrintMore Go.Proofs.Ytgikjgekdeaneaa.Own
set_option linter.unusedVariables false
set_option linter.unusedSimpArgs false
/-- Bytes that are read lie in what there is. -/
theorem C_u8_foot {w : World} {A : Option Addr} {l : List Int} (h : Kd.C (Kd.int .u8) w A l.length l) : Kd.F (Kd.int .u8) w (fun k => k < w.heap.size) A l.length l := by
  intro w' hw
  obtain ⟨h1, h2, h3⟩ := h
  refine ⟨h1, h2, fun hp => ?_⟩
  obtain ⟨ad, rfl, hc⟩ := h3 hp
  refine ⟨ad, rfl, fun j p hj => ?_⟩
  obtain ⟨c, hl, hk, hcc⟩ := hc j p hj
  refine ⟨c, hl, hk, fun i u hu => ?_⟩
  have h0 := hcc i u hu
  rw [← h0]
  have hlt := World.block_lt_of_cell? w _ h0
  exact World.cell?_of_block (hw _ hlt hlt)
theorem takeR' {lo g s : Nat} {st st' : Option (List Int)} {x : Int} (e : Aside0 (take s st = (x, st'))) (w : World) (h : Tk 134 lo w g st) (h1 : 1 ≤ s) (h8 : s ≤ 8) :
  Calls Try.prog 68 #[.pointer (some ⟨g, 0, none⟩), .int .i64 (s : Int)] w fun e w' => e = .returned (.int .i64 x) ∧ Tk 134 lo w' g st' ∧ Ch (one g) w w' := by
  have := takeR s st w h h1 h8
  rwa [e.out] at this
/-- What the reference's Decode answers, of so many bytes. -/
structure RDecd (n : Nat) (d : Option (Msg × List Int)) (e : Ending) : Prop where
  no : d = none → e = .returned (.tuple #[zero.v, .int .i64 0])
  yes : ∀ m r, d = some (m, r) → e = .returned (.tuple #[m.v, .int .i64 ((n : Int) - (r.length : Int))])
theorem take_len (s : Nat) (st : Option (List Int)) (r : List Int) (h : (take s st).2 = some r) : ∃ l, st = some l ∧ r = l.drop s ∧ s ≤ l.length := by
  cases st with
  | none => cases h
  | some l =>
    by_cases hc : l.length < s ∨ (s = 8 ∧ 128 ≤ rd l 0)
    · rw [take_off s l hc] at h
      cases h
    · rw [take_on s l hc] at h
      cases h
      exact ⟨l, rfl, rfl, by omega⟩
theorem take_le (s : Nat) (st : Option (List Int)) (n : Nat) (hst : ∀ l, st = some l → l.length ≤ n) : ∀ l, (take s st).2 = some l → l.length ≤ n := by
  intro l h
  obtain ⟨l0, h1, h2, h3⟩ := take_len s st l h
  have := hst l0 h1
  rw [h2, List.length_drop]
  omega
theorem ord_le (st : Option (List Int)) (n : Nat) (hst : ∀ l, st = some l → l.length ≤ n) : ∀ l, (ord st).2 = some l → l.length ≤ n := by
  unfold ord
  simp only
  refine take_le _ _ _ (take_le _ _ _ (take_le _ _ _ (take_le _ _ _ ?_)))
  intro l h
  split at h
  · cases h
  · exact take_le _ _ _ (take_le _ _ _ (take_le _ _ _ hst)) l h
theorem decM_le (l r : List Int) (h : (decM l).2 = some r) : r.length + 1 ≤ l.length := by
  have h1 : ∀ q, (take 1 (some l)).2 = some q → q.length ≤ l.length - 1 ∧ 1 ≤ l.length := by
    intro q hq
    obtain ⟨l0, e1, e2, e3⟩ := take_len _ _ _ hq
    cases e1
    rw [e2, List.length_drop]
    omega
  by_cases hl : 1 ≤ l.length
  · have h2 : ∀ q, (take 1 (some l)).2 = some q → q.length ≤ l.length - 1 := fun q hq => (h1 q hq).1
    have : r.length ≤ l.length - 1 := by
      unfold decM at h
      simp only at h
      split at h
      · exact ord_le _ _ h2 r h
      · split at h
        · exact take_le _ _ _ h2 r h
        · split at h
          · exact take_le _ _ _ (take_le _ _ _ h2) r h
          · split at h
            · exact take_le _ _ _ (take_le _ _ _ h2) r h
            · exact h2 r h
    omega
  · exfalso
    have h0 : (take 1 (some l)) = (0, none) := take_off 1 l (.inl (by omega))
    unfold decM at h
    rw [h0] at h
    simp [ord, take] at h
theorem dec_len (l : List Int) (m : Msg) (r : List Int) (h : dec l = some (m, r)) : r.length + 1 ≤ l.length := by
  unfold dec at h
  split at h
  · cases h
  · rename_i q hq
    split at h
    · cases h
    · cases h
      exact decM_le l _ hq
set_option maxHeartbeats 8000000 in
set_option maxRecDepth 100000 in
theorem rdecode_ (A : Option Addr) (c : Nat) (l : List Int) (w : World) (hr : Kd.C (Kd.int .u8) w A l.length l) (hc : l.length ≤ c) (hB : Bytes l) :
  Calls Try.prog 22 #[.slice A l.length c] w fun e w' => RDecd l.length (dec l) e ∧ Below w.heap.size w w' := by
 have T1 : Tk 134 0 ((w.alloc (.cells #[.int .i64 0, .int .i64 0, .int .i64 0, .bool false, .int .i64 0, .int .i64 0, .int .i64 0, .int .i64 0, .int .i64 0, .int .i64 0, .int .i64 0, .int .i64 0] 25)).alloc (.cells #[.slice A l.length c, .bool false] 134)) (w.heap.size + 1) (some l) := Tk.mk_good (new_at _ _ _ (size_alloc _ _).symm) hc hB (Bs.ch (S := none_) (show Bs 0 w (w.heap.size + 1) A l from Kd.F_mono (C_u8_foot hr) (fun k hk => ⟨Nat.zero_le _, Nat.lt_succ_of_lt hk⟩)) (((Ch.refl _ w).alloc _).alloc _) (fun _ hk => hk.elim))
 obtain ⟨k, s1, e1⟩ : ∃ x s, take 1 (some l) = (x, s) := ⟨_, _, rfl⟩
 have E1 := Aside0.mk e1
 have R1 := blk_alloc (new_at w (.cells #[.int .i64 0, .int .i64 0, .int .i64 0, .bool false, .int .i64 0, .int .i64 0, .int .i64 0, .int .i64 0, .int .i64 0, .int .i64 0, .int .i64 0, .int .i64 0] 25) _ rfl) (.cells #[.slice A l.length c, .bool false] 134)
 have C1 : Ch none_ w ((w.alloc (.cells #[.int .i64 0, .int .i64 0, .int .i64 0, .bool false, .int .i64 0, .int .i64 0, .int .i64 0, .int .i64 0, .int .i64 0, .int .i64 0, .int .i64 0, .int .i64 0] 25)).alloc (.cells #[.slice A l.length c, .bool false] 134)) := ((Ch.refl none_ w).alloc _).alloc _
 have hrg : w.heap.size < w.heap.size + 1 := Nat.lt_succ_self _
 have hmax : (l.length : Int) ≤ 9223372036854775807 := by have := hr.2.1; omega
 clear hr e1
 go_enter Try.func22, Try.ntmps22
 go_wp2_with (fail)
 refine (takeR' E1 _ T1 (by decide) (by decide)).mono ?_
 rintro e w2 ⟨rfl, T2, c2⟩
 have C2 : Ch none_ w w2 := C1.then_ c2 (fun k hk hs => absurd hk (by rw [show k = w.heap.size + 1 from hs]; omega))
 have R2 := c2.blk R1 (Nat.ne_of_lt hrg)
 have hl2 := T2.lt
 have HT := Aside0.mk (T2.alloc (.cells #[.int .i64 k, .int .i64 0, .int .i64 0, .bool false, .int .i64 0, .int .i64 0, .int .i64 0, .int .i64 0, .int .i64 0, .int .i64 0, .int .i64 0, .int .i64 0] 25))
 have HRB := Aside0.mk (blk_alloc R2 (.cells #[.int .i64 k, .int .i64 0, .int .i64 0, .bool false, .int .i64 0, .int .i64 0, .int .i64 0, .int .i64 0, .int .i64 0, .int .i64 0, .int .i64 0, .int .i64 0] 25))
 have HMB := Aside0.mk (new_at w2 (.cells #[.int .i64 k, .int .i64 0, .int .i64 0, .bool false, .int .i64 0, .int .i64 0, .int .i64 0, .int .i64 0, .int .i64 0, .int .i64 0, .int .i64 0, .int .i64 0] 25) _ rfl)
 have HC := Aside0.mk (C2.alloc (.cells #[.int .i64 k, .int .i64 0, .int .i64 0, .bool false, .int .i64 0, .int .i64 0, .int .i64 0, .int .i64 0, .int .i64 0, .int .i64 0, .int .i64 0, .int .i64 0] 25))
 clear T1 C1 R1 c2 T2 R2 C2
 have rg1 : w.heap.size + 1 ≠ w2.heap.size := Nat.ne_of_lt hl2
 have rg2 : w2.heap.size ≠ w.heap.size + 1 := Nat.ne_of_gt hl2
 have rg3 : w.heap.size ≠ w2.heap.size := by omega
 have rg4 : w2.heap.size ≠ w.heap.size := by omega
 go_upto_block 0 with (fail)
 go_cut [] (fun wc => ∃ (m : Msg) (s : Option (List Int)), Aside0 (decM l = (m, s)) ∧ Aside0 (Tk 134 0 wc (w.heap.size + 1) s) ∧ Aside0 (wc.heap[w2.heap.size]? = some (.cells m.cs 25 (0, 0))) ∧ Aside0 (wc.heap[w.heap.size]? = some (.cells #[.int .i64 0, .int .i64 0, .int .i64 0, .bool false, .int .i64 0, .int .i64 0, .int .i64 0, .int .i64 0, .int .i64 0, .int .i64 0, .int .i64 0, .int .i64 0] 25 (0, 0))) ∧ Aside0 (Ch none_ w wc))
 case first =>
  by_cases k0 : k = 0
  · subst k0
    obtain ⟨x1, a1, q1⟩ : ∃ x s, take 2 s1 = (x, s) := ⟨_, _, rfl⟩
    have Q1 := Aside0.mk q1
    clear q1
    obtain ⟨x2, a2, q2⟩ : ∃ x s, take 2 a1 = (x, s) := ⟨_, _, rfl⟩
    have Q2 := Aside0.mk q2
    clear q2
    obtain ⟨x3, a3, q3⟩ : ∃ x s, take 1 a2 = (x, s) := ⟨_, _, rfl⟩
    have Q3 := Aside0.mk q3
    clear q3
    obtain ⟨x4, a4, q4⟩ : ∃ x s, take 8 (if 1 < x3 then none else a3) = (x, s) := ⟨_, _, rfl⟩
    have Q4 := Aside0.mk q4
    clear q4
    obtain ⟨x5, a5, q5⟩ : ∃ x s, take 8 a4 = (x, s) := ⟨_, _, rfl⟩
    have Q5 := Aside0.mk q5
    clear q5
    obtain ⟨x6, a6, q6⟩ : ∃ x s, take 8 a5 = (x, s) := ⟨_, _, rfl⟩
    have Q6 := Aside0.mk q6
    clear q6
    obtain ⟨x7, a7, q7⟩ : ∃ x s, take 8 a6 = (x, s) := ⟨_, _, rfl⟩
    have Q7 := Aside0.mk q7
    clear q7
    go_wp2_with (fail)
    refine (takeR' Q1 _ (HT.out) (by decide) (by decide)).mono ?_
    rintro e v1 ⟨rfl, t1, c1⟩
    have M1 := c1.blk (HMB.out) rg2
    have B1 := c1.blk (HRB.out) (Nat.ne_of_lt hrg)
    have K1 := Ch.then_ (HC.out) c1 (fun k hk hs => absurd hk (by rw [show k = w.heap.size + 1 from hs]; omega))
    have f1 := Aside0.mk t1
    have MM1 := Aside0.mk M1
    have BB1 := Aside0.mk B1
    have KK1 := Aside0.mk K1
    clear t1 c1 M1 B1 K1
    go_wp2_with (fail)
    refine (takeR' Q2 _ (f1.out) (by decide) (by decide)).mono ?_
    rintro e v2 ⟨rfl, t2, c2⟩
    have M2 := c2.blk (MM1.out) rg2
    have B2 := c2.blk (BB1.out) (Nat.ne_of_lt hrg)
    have K2 := Ch.then_ (KK1.out) c2 (fun k hk hs => absurd hk (by rw [show k = w.heap.size + 1 from hs]; omega))
    have f2 := Aside0.mk t2
    have MM2 := Aside0.mk M2
    have BB2 := Aside0.mk B2
    have KK2 := Aside0.mk K2
    clear t2 c2 M2 B2 K2
    have x2_1 := (blk_cell (MM2.out) 1).trans rfl
    have y2_1 := blk_frozen (MM2.out) 1
    have x2_2 := (blk_cell (MM2.out) 2).trans rfl
    have y2_2 := blk_frozen (MM2.out) 2
    go_wp2_with (fail)
    refine (takeR' Q3 _ (Tk.far (Tk.far (f2.out) hl2 (i := 1) (.int .i64 x1)) hl2 (i := 2) (.int .i64 x2)) (by decide) (by decide)).mono ?_
    rintro e v3 ⟨rfl, t3, c3⟩
    have M3 := c3.blk (blk_put (blk_put (MM2.out) 1 (.int .i64 x1) rfl) 2 (.int .i64 x2) rfl) rg2
    have B3 := c3.blk (blk_far (p := ⟨w2.heap.size, 2, none⟩) (blk_far (p := ⟨w2.heap.size, 1, none⟩) (BB2.out) rg3 (.int .i64 x1)) rg3 (.int .i64 x2)) (Nat.ne_of_lt hrg)
    have K3 := Ch.then_ (Ch.set (p := ⟨w2.heap.size, 2, none⟩) (Ch.set (p := ⟨w2.heap.size, 1, none⟩) (KK2.out) (fun h => absurd h (by show ¬ w2.heap.size < _; omega)) (.int .i64 x1)) (fun h => absurd h (by show ¬ w2.heap.size < _; omega)) (.int .i64 x2)) c3 (fun k hk hs => absurd hk (by rw [show k = w.heap.size + 1 from hs]; omega))
    have f3 := Aside0.mk t3
    have MM3 := Aside0.mk M3
    have BB3 := Aside0.mk B3
    have KK3 := Aside0.mk K3
    clear t3 c3 M3 B3 K3
    obtain ⟨zg, hf⟩ := f3.out.flag
    have HS : (∃ b, v3.cell? ⟨w.heap.size + 1, 1, none⟩ = some (.bool b) ∧ Aside0 (Tk 134 0 (v3.setCell ⟨w.heap.size + 1, 1, none⟩ (.bool (b || decide (1 < x3)))) (w.heap.size + 1) (if 1 < x3 then none else a3))) := by
      have t3 := f3.out
      rcases hf with ⟨rfl, hf⟩ | ⟨r, rfl, hf⟩
      · exact ⟨true, hf, ⟨by rw [ite_self]; exact t3.put_bad⟩⟩
      · by_cases h1 : 1 < x3
        · exact ⟨false, hf, ⟨by rw [if_pos h1, decide_eq_true h1]; exact t3.put_bad⟩⟩
        · exact ⟨false, hf, ⟨by rw [if_neg h1, decide_eq_false h1]; exact t3.put_ok⟩⟩
    obtain ⟨b, fg, HB⟩ := HS
    clear hf
    have x3_3 := (blk_cell MM3.out 3).trans rfl
    have y3_3 := blk_frozen MM3.out 3
    cases b
    · simp only [Bool.false_or] at HB
      go_wp2_with (fail)
      refine (takeR' Q4 _ (Tk.far (HB.out) hl2 (i := 3) (.bool (x3 == 1))) (by decide) (by decide)).mono ?_
      rintro e v4 ⟨rfl, t4, c4⟩
      have M4 := c4.blk (blk_put (blk_far (p := ⟨w.heap.size + 1, 1, none⟩) MM3.out rg2 (.bool (decide (1 < x3)))) 3 (.bool (x3 == 1)) rfl) rg2
      have B4 := c4.blk (blk_far (p := ⟨w2.heap.size, 3, none⟩) (blk_far (p := ⟨w.heap.size + 1, 1, none⟩) BB3.out (Nat.ne_of_lt hrg) (.bool (decide (1 < x3)))) rg3 (.bool (x3 == 1))) (Nat.ne_of_lt hrg)
      have K4 := Ch.then_ (Ch.set (p := ⟨w2.heap.size, 3, none⟩) (Ch.set (p := ⟨w.heap.size + 1, 1, none⟩) KK3.out (fun h => absurd h (by show ¬ w.heap.size + 1 < _; omega)) (.bool (decide (1 < x3)))) (fun h => absurd h (by show ¬ w2.heap.size < _; omega)) (.bool (x3 == 1))) c4 (fun k hk hs => absurd hk (by rw [show k = w.heap.size + 1 from hs]; omega))
      have f4 := Aside0.mk t4
      have MM4 := Aside0.mk M4
      have BB4 := Aside0.mk B4
      have KK4 := Aside0.mk K4
      clear t4 c4 M4 B4 K4
      go_wp2_with (fail)
      refine (takeR' Q5 _ (f4.out) (by decide) (by decide)).mono ?_
      rintro e v5 ⟨rfl, t5, c5⟩
      have M5 := c5.blk (MM4.out) rg2
      have B5 := c5.blk (BB4.out) (Nat.ne_of_lt hrg)
      have K5 := Ch.then_ (KK4.out) c5 (fun k hk hs => absurd hk (by rw [show k = w.heap.size + 1 from hs]; omega))
      have f5 := Aside0.mk t5
      have MM5 := Aside0.mk M5
      have BB5 := Aside0.mk B5
      have KK5 := Aside0.mk K5
      clear t5 c5 M5 B5 K5
      go_wp2_with (fail)
      refine (takeR' Q6 _ (f5.out) (by decide) (by decide)).mono ?_
      rintro e v6 ⟨rfl, t6, c6⟩
      have M6 := c6.blk (MM5.out) rg2
      have B6 := c6.blk (BB5.out) (Nat.ne_of_lt hrg)
      have K6 := Ch.then_ (KK5.out) c6 (fun k hk hs => absurd hk (by rw [show k = w.heap.size + 1 from hs]; omega))
      have f6 := Aside0.mk t6
      have MM6 := Aside0.mk M6
      have BB6 := Aside0.mk B6
      have KK6 := Aside0.mk K6
      clear t6 c6 M6 B6 K6
      go_wp2_with (fail)
      refine (takeR' Q7 _ (f6.out) (by decide) (by decide)).mono ?_
      rintro e v7 ⟨rfl, t7, c7⟩
      have M7 := c7.blk (MM6.out) rg2
      have B7 := c7.blk (BB6.out) (Nat.ne_of_lt hrg)
      have K7 := Ch.then_ (KK6.out) c7 (fun k hk hs => absurd hk (by rw [show k = w.heap.size + 1 from hs]; omega))
      have f7 := Aside0.mk t7
      have MM7 := Aside0.mk M7
      have BB7 := Aside0.mk B7
      have KK7 := Aside0.mk K7
      clear t7 c7 M7 B7 K7
      have x7_4 := (blk_cell (MM7.out) 4).trans rfl
      have y7_4 := blk_frozen (MM7.out) 4
      have x7_5 := (blk_cell (MM7.out) 5).trans rfl
      have y7_5 := blk_frozen (MM7.out) 5
      have x7_6 := (blk_cell (MM7.out) 6).trans rfl
      have y7_6 := blk_frozen (MM7.out) 6
      have x7_7 := (blk_cell (MM7.out) 7).trans rfl
      have y7_7 := blk_frozen (MM7.out) 7
      go_wp2_with (fail)
      go_meet
      case rel => exact ⟨⟨0, x1, x2, x3 == 1, x4, x5, x6, x7, 0, 0, 0, 0⟩, a7, ⟨by unfold decM; rw [E1.out]; simp only [ord, Q1.out, Q2.out, Q3.out, Q4.out, Q5.out, Q6.out, Q7.out, if_true]⟩, ⟨Tk.far (Tk.far (Tk.far (Tk.far (f7.out) hl2 (i := 4) (.int .i64 x4)) hl2 (i := 5) (.int .i64 x5)) hl2 (i := 6) (.int .i64 x6)) hl2 (i := 7) (.int .i64 x7)⟩, ⟨blk_put (blk_put (blk_put (blk_put (MM7.out) 4 (.int .i64 x4) rfl) 5 (.int .i64 x5) rfl) 6 (.int .i64 x6) rfl) 7 (.int .i64 x7) rfl⟩, ⟨blk_far (p := ⟨w2.heap.size, 7, none⟩) (blk_far (p := ⟨w2.heap.size, 6, none⟩) (blk_far (p := ⟨w2.heap.size, 5, none⟩) (blk_far (p := ⟨w2.heap.size, 4, none⟩) (BB7.out) rg3 (.int .i64 x4)) rg3 (.int .i64 x5)) rg3 (.int .i64 x6)) rg3 (.int .i64 x7)⟩, ⟨Ch.set (p := ⟨w2.heap.size, 7, none⟩) (Ch.set (p := ⟨w2.heap.size, 6, none⟩) (Ch.set (p := ⟨w2.heap.size, 5, none⟩) (Ch.set (p := ⟨w2.heap.size, 4, none⟩) (KK7.out) (fun h => absurd h (by show ¬ w2.heap.size < _; omega)) (.int .i64 x4)) (fun h => absurd h (by show ¬ w2.heap.size < _; omega)) (.int .i64 x5)) (fun h => absurd h (by show ¬ w2.heap.size < _; omega)) (.int .i64 x6)) (fun h => absurd h (by show ¬ w2.heap.size < _; omega)) (.int .i64 x7)⟩⟩
    · simp only [Bool.true_or] at HB
      go_wp2_with (fail)
      refine (takeR' Q4 _ (Tk.far (HB.out) hl2 (i := 3) (.bool (x3 == 1))) (by decide) (by decide)).mono ?_
      rintro e v4 ⟨rfl, t4, c4⟩
      have M4 := c4.blk (blk_put (blk_far (p := ⟨w.heap.size + 1, 1, none⟩) MM3.out rg2 (.bool true)) 3 (.bool (x3 == 1)) rfl) rg2
      have B4 := c4.blk (blk_far (p := ⟨w2.heap.size, 3, none⟩) (blk_far (p := ⟨w.heap.size + 1, 1, none⟩) BB3.out (Nat.ne_of_lt hrg) (.bool true)) rg3 (.bool (x3 == 1))) (Nat.ne_of_lt hrg)
      have K4 := Ch.then_ (Ch.set (p := ⟨w2.heap.size, 3, none⟩) (Ch.set (p := ⟨w.heap.size + 1, 1, none⟩) KK3.out (fun h => absurd h (by show ¬ w.heap.size + 1 < _; omega)) (.bool true)) (fun h => absurd h (by show ¬ w2.heap.size < _; omega)) (.bool (x3 == 1))) c4 (fun k hk hs => absurd hk (by rw [show k = w.heap.size + 1 from hs]; omega))
      have f4 := Aside0.mk t4
      have MM4 := Aside0.mk M4
      have BB4 := Aside0.mk B4
      have KK4 := Aside0.mk K4
      clear t4 c4 M4 B4 K4
      go_wp2_with (fail)
      refine (takeR' Q5 _ (f4.out) (by decide) (by decide)).mono ?_
      rintro e v5 ⟨rfl, t5, c5⟩
      have M5 := c5.blk (MM4.out) rg2
      have B5 := c5.blk (BB4.out) (Nat.ne_of_lt hrg)
      have K5 := Ch.then_ (KK4.out) c5 (fun k hk hs => absurd hk (by rw [show k = w.heap.size + 1 from hs]; omega))
      have f5 := Aside0.mk t5
      have MM5 := Aside0.mk M5
      have BB5 := Aside0.mk B5
      have KK5 := Aside0.mk K5
      clear t5 c5 M5 B5 K5
      go_wp2_with (fail)
      refine (takeR' Q6 _ (f5.out) (by decide) (by decide)).mono ?_
      rintro e v6 ⟨rfl, t6, c6⟩
      have M6 := c6.blk (MM5.out) rg2
      have B6 := c6.blk (BB5.out) (Nat.ne_of_lt hrg)
      have K6 := Ch.then_ (KK5.out) c6 (fun k hk hs => absurd hk (by rw [show k = w.heap.size + 1 from hs]; omega))
      have f6 := Aside0.mk t6
      have MM6 := Aside0.mk M6
      have BB6 := Aside0.mk B6
      have KK6 := Aside0.mk K6
      clear t6 c6 M6 B6 K6
      go_wp2_with (fail)
      refine (takeR' Q7 _ (f6.out) (by decide) (by decide)).mono ?_
      rintro e v7 ⟨rfl, t7, c7⟩
      have M7 := c7.blk (MM6.out) rg2
      have B7 := c7.blk (BB6.out) (Nat.ne_of_lt hrg)
      have K7 := Ch.then_ (KK6.out) c7 (fun k hk hs => absurd hk (by rw [show k = w.heap.size + 1 from hs]; omega))
      have f7 := Aside0.mk t7
      have MM7 := Aside0.mk M7
      have BB7 := Aside0.mk B7
      have KK7 := Aside0.mk K7
      clear t7 c7 M7 B7 K7
      have x7_4 := (blk_cell (MM7.out) 4).trans rfl
      have y7_4 := blk_frozen (MM7.out) 4
      have x7_5 := (blk_cell (MM7.out) 5).trans rfl
      have y7_5 := blk_frozen (MM7.out) 5
      have x7_6 := (blk_cell (MM7.out) 6).trans rfl
      have y7_6 := blk_frozen (MM7.out) 6
      have x7_7 := (blk_cell (MM7.out) 7).trans rfl
      have y7_7 := blk_frozen (MM7.out) 7
      go_wp2_with (fail)
      go_meet
      case rel => exact ⟨⟨0, x1, x2, x3 == 1, x4, x5, x6, x7, 0, 0, 0, 0⟩, a7, ⟨by unfold decM; rw [E1.out]; simp only [ord, Q1.out, Q2.out, Q3.out, Q4.out, Q5.out, Q6.out, Q7.out, if_true]⟩, ⟨Tk.far (Tk.far (Tk.far (Tk.far (f7.out) hl2 (i := 4) (.int .i64 x4)) hl2 (i := 5) (.int .i64 x5)) hl2 (i := 6) (.int .i64 x6)) hl2 (i := 7) (.int .i64 x7)⟩, ⟨blk_put (blk_put (blk_put (blk_put (MM7.out) 4 (.int .i64 x4) rfl) 5 (.int .i64 x5) rfl) 6 (.int .i64 x6) rfl) 7 (.int .i64 x7) rfl⟩, ⟨blk_far (p := ⟨w2.heap.size, 7, none⟩) (blk_far (p := ⟨w2.heap.size, 6, none⟩) (blk_far (p := ⟨w2.heap.size, 5, none⟩) (blk_far (p := ⟨w2.heap.size, 4, none⟩) (BB7.out) rg3 (.int .i64 x4)) rg3 (.int .i64 x5)) rg3 (.int .i64 x6)) rg3 (.int .i64 x7)⟩, ⟨Ch.set (p := ⟨w2.heap.size, 7, none⟩) (Ch.set (p := ⟨w2.heap.size, 6, none⟩) (Ch.set (p := ⟨w2.heap.size, 5, none⟩) (Ch.set (p := ⟨w2.heap.size, 4, none⟩) (KK7.out) (fun h => absurd h (by show ¬ w2.heap.size < _; omega)) (.int .i64 x4)) (fun h => absurd h (by show ¬ w2.heap.size < _; omega)) (.int .i64 x5)) (fun h => absurd h (by show ¬ w2.heap.size < _; omega)) (.int .i64 x6)) (fun h => absurd h (by show ¬ w2.heap.size < _; omega)) (.int .i64 x7)⟩⟩
  · by_cases k1 : k = 1
    · subst k1
      obtain ⟨x, s, e2⟩ : ∃ x s, take 4 s1 = (x, s) := ⟨_, _, rfl⟩
      have E2 := Aside0.mk e2
      clear e2
      go_wp2_with (fail)
      refine (takeR' E2 _ (HT.out) (by decide) (by decide)).mono ?_
      rintro e v1 ⟨rfl, t1, c1⟩
      have M1 := c1.blk (HMB.out) rg2
      have B1 := c1.blk (HRB.out) (Nat.ne_of_lt hrg)
      have K1 := Ch.then_ (HC.out) c1 (fun k hk hs => absurd hk (by rw [show k = w.heap.size + 1 from hs]; omega))
      have f1 := Aside0.mk t1
      have MM1 := Aside0.mk M1
      have BB1 := Aside0.mk B1
      have KK1 := Aside0.mk K1
      clear t1 c1 M1 B1 K1
      have x1_8 := (blk_cell (MM1.out) 8).trans rfl
      have y1_8 := blk_frozen (MM1.out) 8
      go_wp2_with (fail)
      go_meet
      case rel => exact ⟨{ zero with k := 1, i := x }, s, ⟨by unfold decM; rw [E1.out]; simp [E2.out]⟩, ⟨Tk.far (f1.out) hl2 (i := 8) (.int .i64 x)⟩, ⟨blk_put (MM1.out) 8 (.int .i64 x) rfl⟩, ⟨blk_far (p := ⟨w2.heap.size, 8, none⟩) (BB1.out) rg3 (.int .i64 x)⟩, ⟨Ch.set (p := ⟨w2.heap.size, 8, none⟩) (KK1.out) (fun h => absurd h (by show ¬ w2.heap.size < _; omega)) (.int .i64 x)⟩⟩
    · by_cases k3 : k = 3
      · subst k3
        obtain ⟨x, s, e2⟩ : ∃ x s, take 4 s1 = (x, s) := ⟨_, _, rfl⟩
        have E2 := Aside0.mk e2
        clear e2
        go_wp2_with (fail)
        refine (takeR' E2 _ (HT.out) (by decide) (by decide)).mono ?_
        rintro e v1 ⟨rfl, t1, c1⟩
        have M1 := c1.blk (HMB.out) rg2
        have B1 := c1.blk (HRB.out) (Nat.ne_of_lt hrg)
        have K1 := Ch.then_ (HC.out) c1 (fun k hk hs => absurd hk (by rw [show k = w.heap.size + 1 from hs]; omega))
        have f1 := Aside0.mk t1
        have MM1 := Aside0.mk M1
        have BB1 := Aside0.mk B1
        have KK1 := Aside0.mk K1
        clear t1 c1 M1 B1 K1
        have x1_8 := (blk_cell (MM1.out) 8).trans rfl
        have y1_8 := blk_frozen (MM1.out) 8
        go_wp2_with (fail)
        go_meet
        case rel => exact ⟨{ zero with k := 3, i := x }, s, ⟨by unfold decM; rw [E1.out]; simp [E2.out]⟩, ⟨Tk.far (f1.out) hl2 (i := 8) (.int .i64 x)⟩, ⟨blk_put (MM1.out) 8 (.int .i64 x) rfl⟩, ⟨blk_far (p := ⟨w2.heap.size, 8, none⟩) (BB1.out) rg3 (.int .i64 x)⟩, ⟨Ch.set (p := ⟨w2.heap.size, 8, none⟩) (KK1.out) (fun h => absurd h (by show ¬ w2.heap.size < _; omega)) (.int .i64 x)⟩⟩
      · by_cases k2 : k = 2
        · subst k2
          obtain ⟨x, s, e2⟩ : ∃ x s, take 4 s1 = (x, s) := ⟨_, _, rfl⟩
          obtain ⟨x', s', e3⟩ : ∃ x s', take 8 s = (x, s') := ⟨_, _, rfl⟩
          have E2 := Aside0.mk e2
          have E3 := Aside0.mk e3
          clear e2 e3
          go_wp2_with (fail)
          refine (takeR' E2 _ (HT.out) (by decide) (by decide)).mono ?_
          rintro e v1 ⟨rfl, t1, c1⟩
          have M1 := c1.blk (HMB.out) rg2
          have B1 := c1.blk (HRB.out) (Nat.ne_of_lt hrg)
          have K1 := Ch.then_ (HC.out) c1 (fun k hk hs => absurd hk (by rw [show k = w.heap.size + 1 from hs]; omega))
          have f1 := Aside0.mk t1
          have MM1 := Aside0.mk M1
          have BB1 := Aside0.mk B1
          have KK1 := Aside0.mk K1
          clear t1 c1 M1 B1 K1
          go_wp2_with (fail)
          refine (takeR' E3 _ (f1.out) (by decide) (by decide)).mono ?_
          rintro e v2 ⟨rfl, t2, c2⟩
          have M2 := c2.blk (MM1.out) rg2
          have B2 := c2.blk (BB1.out) (Nat.ne_of_lt hrg)
          have K2 := Ch.then_ (KK1.out) c2 (fun k hk hs => absurd hk (by rw [show k = w.heap.size + 1 from hs]; omega))
          have f2 := Aside0.mk t2
          have MM2 := Aside0.mk M2
          have BB2 := Aside0.mk B2
          have KK2 := Aside0.mk K2
          clear t2 c2 M2 B2 K2
          have x2_8 := (blk_cell (MM2.out) 8).trans rfl
          have y2_8 := blk_frozen (MM2.out) 8
          have x2_9 := (blk_cell (MM2.out) 9).trans rfl
          have y2_9 := blk_frozen (MM2.out) 9
          go_wp2_with (fail)
          go_meet
          case rel => exact ⟨{ zero with k := 2, i := x, y := x' }, s', ⟨by unfold decM; rw [E1.out]; simp [E2.out, E3.out]⟩, ⟨Tk.far (Tk.far (f2.out) hl2 (i := 8) (.int .i64 x)) hl2 (i := 9) (.int .i64 x')⟩, ⟨blk_put (blk_put (MM2.out) 8 (.int .i64 x) rfl) 9 (.int .i64 x') rfl⟩, ⟨blk_far (p := ⟨w2.heap.size, 9, none⟩) (blk_far (p := ⟨w2.heap.size, 8, none⟩) (BB2.out) rg3 (.int .i64 x)) rg3 (.int .i64 x')⟩, ⟨Ch.set (p := ⟨w2.heap.size, 9, none⟩) (Ch.set (p := ⟨w2.heap.size, 8, none⟩) (KK2.out) (fun h => absurd h (by show ¬ w2.heap.size < _; omega)) (.int .i64 x)) (fun h => absurd h (by show ¬ w2.heap.size < _; omega)) (.int .i64 x')⟩⟩
        · by_cases k6 : k = 6
          · subst k6
            obtain ⟨x, s, e2⟩ : ∃ x s, take 2 s1 = (x, s) := ⟨_, _, rfl⟩
            obtain ⟨x', s', e3⟩ : ∃ x s', take 8 s = (x, s') := ⟨_, _, rfl⟩
            have E2 := Aside0.mk e2
            have E3 := Aside0.mk e3
            clear e2 e3
            go_wp2_with (fail)
            refine (takeR' E2 _ (HT.out) (by decide) (by decide)).mono ?_
            rintro e v1 ⟨rfl, t1, c1⟩
            have M1 := c1.blk (HMB.out) rg2
            have B1 := c1.blk (HRB.out) (Nat.ne_of_lt hrg)
            have K1 := Ch.then_ (HC.out) c1 (fun k hk hs => absurd hk (by rw [show k = w.heap.size + 1 from hs]; omega))
            have f1 := Aside0.mk t1
            have MM1 := Aside0.mk M1
            have BB1 := Aside0.mk B1
            have KK1 := Aside0.mk K1
            clear t1 c1 M1 B1 K1
            go_wp2_with (fail)
            refine (takeR' E3 _ (f1.out) (by decide) (by decide)).mono ?_
            rintro e v2 ⟨rfl, t2, c2⟩
            have M2 := c2.blk (MM1.out) rg2
            have B2 := c2.blk (BB1.out) (Nat.ne_of_lt hrg)
            have K2 := Ch.then_ (KK1.out) c2 (fun k hk hs => absurd hk (by rw [show k = w.heap.size + 1 from hs]; omega))
            have f2 := Aside0.mk t2
            have MM2 := Aside0.mk M2
            have BB2 := Aside0.mk B2
            have KK2 := Aside0.mk K2
            clear t2 c2 M2 B2 K2
            have x2_10 := (blk_cell (MM2.out) 10).trans rfl
            have y2_10 := blk_frozen (MM2.out) 10
            have x2_11 := (blk_cell (MM2.out) 11).trans rfl
            have y2_11 := blk_frozen (MM2.out) 11
            go_wp2_with (fail)
            go_meet
            case rel => exact ⟨{ zero with k := 6, d := x, m := x' }, s', ⟨by unfold decM; rw [E1.out]; simp [E2.out, E3.out]⟩, ⟨Tk.far (Tk.far (f2.out) hl2 (i := 10) (.int .i64 x)) hl2 (i := 11) (.int .i64 x')⟩, ⟨blk_put (blk_put (MM2.out) 10 (.int .i64 x) rfl) 11 (.int .i64 x') rfl⟩, ⟨blk_far (p := ⟨w2.heap.size, 11, none⟩) (blk_far (p := ⟨w2.heap.size, 10, none⟩) (BB2.out) rg3 (.int .i64 x)) rg3 (.int .i64 x')⟩, ⟨Ch.set (p := ⟨w2.heap.size, 11, none⟩) (Ch.set (p := ⟨w2.heap.size, 10, none⟩) (KK2.out) (fun h => absurd h (by show ¬ w2.heap.size < _; omega)) (.int .i64 x)) (fun h => absurd h (by show ¬ w2.heap.size < _; omega)) (.int .i64 x')⟩⟩
          · have b0 : (k == 0) = false := beq_eq_false_iff_ne.mpr k0
            have b1 : (k == 1) = false := beq_eq_false_iff_ne.mpr k1
            have b3 : (k == 3) = false := beq_eq_false_iff_ne.mpr k3
            have b2 : (k == 2) = false := beq_eq_false_iff_ne.mpr k2
            have b6 : (k == 6) = false := beq_eq_false_iff_ne.mpr k6
            have hd : decM l = ({ zero with k := k }, s1) := by unfold decM; rw [E1.out]; simp only [k0, k1, k3, k2, k6, if_false, or_self]
            have HD := Aside0.mk hd
            clear hd k0 k1 k3 k2 k6
            go_wp2_with (fail)
            go_meet
            case rel => exact ⟨{ zero with k := k }, s1, ⟨HD.out⟩, ⟨HT.out⟩, ⟨HMB.out⟩, ⟨HRB.out⟩, ⟨HC.out⟩⟩
 case rest =>
  obtain ⟨m, s, HD, HT, HMB, HRB, HC⟩ := hcut
  obtain ⟨zf, hf⟩ := HT.out.flag
  obtain ⟨⟨r0, r1, r2, r3, r4, r5, r6, r7, r8, r9, r10, r11⟩, y0, y1, y2, y3, y4, y5, y6, y7, y8, y9, y10, y11⟩ := blk_all12 HRB.out
  obtain ⟨⟨m0, m1, m2, m3, m4, m5, m6, m7, m8, m9, m10, m11⟩, -⟩ := blk_all12 (show _ = some (Obj.cells #[.int .i64 m.k, .int .i64 m.a, .int .i64 m.s, .bool m.b, .int .i64 m.p, .int .i64 m.q, .int .i64 m.n, .int .i64 m.t, .int .i64 m.i, .int .i64 m.y, .int .i64 m.d, .int .i64 m.m] 25 (0, 0)) from HMB.out)
  rcases hf with ⟨rfl, f1⟩ | ⟨r, rfl, f1⟩
  · have HDD : Aside0 (dec l = none) := ⟨by unfold dec; rw [HD.out]⟩
    go_wp2_with (fail)
    refine bodyPost_ret (results_ct rfl _ _ w.heap.size 25 #[.int .i64 0, .int .i64 0, .int .i64 0, .bool false, .int .i64 0, .int .i64 0, .int .i64 0, .int .i64 0, .int .i64 0, .int .i64 0, .int .i64 0, .int .i64 0] (0, 0) _ rfl (by exact blk_put (cs' := #[.int .i64 0, .int .i64 0, .int .i64 0, .bool false, .int .i64 0, .int .i64 0, .int .i64 0, .int .i64 0, .int .i64 0, .int .i64 0, .int .i64 0, .int .i64 0]) (blk_put (cs' := #[.int .i64 0, .int .i64 0, .int .i64 0, .bool false, .int .i64 0, .int .i64 0, .int .i64 0, .int .i64 0, .int .i64 0, .int .i64 0, .int .i64 0, .int .i64 0]) (blk_put (cs' := #[.int .i64 0, .int .i64 0, .int .i64 0, .bool false, .int .i64 0, .int .i64 0, .int .i64 0, .int .i64 0, .int .i64 0, .int .i64 0, .int .i64 0, .int .i64 0]) (blk_put (cs' := #[.int .i64 0, .int .i64 0, .int .i64 0, .bool false, .int .i64 0, .int .i64 0, .int .i64 0, .int .i64 0, .int .i64 0, .int .i64 0, .int .i64 0, .int .i64 0]) (blk_put (cs' := #[.int .i64 0, .int .i64 0, .int .i64 0, .bool false, .int .i64 0, .int .i64 0, .int .i64 0, .int .i64 0, .int .i64 0, .int .i64 0, .int .i64 0, .int .i64 0]) (blk_put (cs' := #[.int .i64 0, .int .i64 0, .int .i64 0, .bool false, .int .i64 0, .int .i64 0, .int .i64 0, .int .i64 0, .int .i64 0, .int .i64 0, .int .i64 0, .int .i64 0]) (blk_put (cs' := #[.int .i64 0, .int .i64 0, .int .i64 0, .bool false, .int .i64 0, .int .i64 0, .int .i64 0, .int .i64 0, .int .i64 0, .int .i64 0, .int .i64 0, .int .i64 0]) (blk_put (cs' := #[.int .i64 0, .int .i64 0, .int .i64 0, .bool false, .int .i64 0, .int .i64 0, .int .i64 0, .int .i64 0, .int .i64 0, .int .i64 0, .int .i64 0, .int .i64 0]) (blk_put (cs' := #[.int .i64 0, .int .i64 0, .int .i64 0, .bool false, .int .i64 0, .int .i64 0, .int .i64 0, .int .i64 0, .int .i64 0, .int .i64 0, .int .i64 0, .int .i64 0]) (blk_put (cs' := #[.int .i64 0, .int .i64 0, .int .i64 0, .bool false, .int .i64 0, .int .i64 0, .int .i64 0, .int .i64 0, .int .i64 0, .int .i64 0, .int .i64 0, .int .i64 0]) (blk_put (cs' := #[.int .i64 0, .int .i64 0, .int .i64 0, .bool false, .int .i64 0, .int .i64 0, .int .i64 0, .int .i64 0, .int .i64 0, .int .i64 0, .int .i64 0, .int .i64 0]) (blk_put (cs' := #[.int .i64 0, .int .i64 0, .int .i64 0, .bool false, .int .i64 0, .int .i64 0, .int .i64 0, .int .i64 0, .int .i64 0, .int .i64 0, .int .i64 0, .int .i64 0]) (HRB.out) 0 (.int .i64 0) rfl) 1 (.int .i64 0) rfl) 2 (.int .i64 0) rfl) 3 (.bool false) rfl) 4 (.int .i64 0) rfl) 5 (.int .i64 0) rfl) 6 (.int .i64 0) rfl) 7 (.int .i64 0) rfl) 8 (.int .i64 0) rfl) 9 (.int .i64 0) rfl) 10 (.int .i64 0) rfl) 11 (.int .i64 0) rfl) Try.underlying25 rfl (by kernel_rfl)) rfl ?_
    exact ⟨⟨fun _ => rfl, (fun m' r' h => by rw [HDD.out] at h; cases h)⟩, (Ch.set (p := ⟨w.heap.size, 11, none⟩) (Ch.set (p := ⟨w.heap.size, 10, none⟩) (Ch.set (p := ⟨w.heap.size, 9, none⟩) (Ch.set (p := ⟨w.heap.size, 8, none⟩) (Ch.set (p := ⟨w.heap.size, 7, none⟩) (Ch.set (p := ⟨w.heap.size, 6, none⟩) (Ch.set (p := ⟨w.heap.size, 5, none⟩) (Ch.set (p := ⟨w.heap.size, 4, none⟩) (Ch.set (p := ⟨w.heap.size, 3, none⟩) (Ch.set (p := ⟨w.heap.size, 2, none⟩) (Ch.set (p := ⟨w.heap.size, 1, none⟩) (Ch.set (p := ⟨w.heap.size, 0, none⟩) (HC.out) (fun h => absurd h (by show ¬ w.heap.size < _; omega)) (.int .i64 0)) (fun h => absurd h (by show ¬ w.heap.size < _; omega)) (.int .i64 0)) (fun h => absurd h (by show ¬ w.heap.size < _; omega)) (.int .i64 0)) (fun h => absurd h (by show ¬ w.heap.size < _; omega)) (.bool false)) (fun h => absurd h (by show ¬ w.heap.size < _; omega)) (.int .i64 0)) (fun h => absurd h (by show ¬ w.heap.size < _; omega)) (.int .i64 0)) (fun h => absurd h (by show ¬ w.heap.size < _; omega)) (.int .i64 0)) (fun h => absurd h (by show ¬ w.heap.size < _; omega)) (.int .i64 0)) (fun h => absurd h (by show ¬ w.heap.size < _; omega)) (.int .i64 0)) (fun h => absurd h (by show ¬ w.heap.size < _; omega)) (.int .i64 0)) (fun h => absurd h (by show ¬ w.heap.size < _; omega)) (.int .i64 0)) (fun h => absurd h (by show ¬ w.heap.size < _; omega)) (.int .i64 0)).below0⟩
  · by_cases h6 : 6 < m.k
    · have h6b := decide_eq_true h6
      have HDD : Aside0 (dec l = none) := ⟨by unfold dec; rw [HD.out]; exact if_pos h6⟩
      go_wp2_with (fail)
      refine bodyPost_ret (results_ct rfl _ _ w.heap.size 25 #[.int .i64 0, .int .i64 0, .int .i64 0, .bool false, .int .i64 0, .int .i64 0, .int .i64 0, .int .i64 0, .int .i64 0, .int .i64 0, .int .i64 0, .int .i64 0] (0, 0) _ rfl (by exact blk_put (cs' := #[.int .i64 0, .int .i64 0, .int .i64 0, .bool false, .int .i64 0, .int .i64 0, .int .i64 0, .int .i64 0, .int .i64 0, .int .i64 0, .int .i64 0, .int .i64 0]) (blk_put (cs' := #[.int .i64 0, .int .i64 0, .int .i64 0, .bool false, .int .i64 0, .int .i64 0, .int .i64 0, .int .i64 0, .int .i64 0, .int .i64 0, .int .i64 0, .int .i64 0]) (blk_put (cs' := #[.int .i64 0, .int .i64 0, .int .i64 0, .bool false, .int .i64 0, .int .i64 0, .int .i64 0, .int .i64 0, .int .i64 0, .int .i64 0, .int .i64 0, .int .i64 0]) (blk_put (cs' := #[.int .i64 0, .int .i64 0, .int .i64 0, .bool false, .int .i64 0, .int .i64 0, .int .i64 0, .int .i64 0, .int .i64 0, .int .i64 0, .int .i64 0, .int .i64 0]) (blk_put (cs' := #[.int .i64 0, .int .i64 0, .int .i64 0, .bool false, .int .i64 0, .int .i64 0, .int .i64 0, .int .i64 0, .int .i64 0, .int .i64 0, .int .i64 0, .int .i64 0]) (blk_put (cs' := #[.int .i64 0, .int .i64 0, .int .i64 0, .bool false, .int .i64 0, .int .i64 0, .int .i64 0, .int .i64 0, .int .i64 0, .int .i64 0, .int .i64 0, .int .i64 0]) (blk_put (cs' := #[.int .i64 0, .int .i64 0, .int .i64 0, .bool false, .int .i64 0, .int .i64 0, .int .i64 0, .int .i64 0, .int .i64 0, .int .i64 0, .int .i64 0, .int .i64 0]) (blk_put (cs' := #[.int .i64 0, .int .i64 0, .int .i64 0, .bool false, .int .i64 0, .int .i64 0, .int .i64 0, .int .i64 0, .int .i64 0, .int .i64 0, .int .i64 0, .int .i64 0]) (blk_put (cs' := #[.int .i64 0, .int .i64 0, .int .i64 0, .bool false, .int .i64 0, .int .i64 0, .int .i64 0, .int .i64 0, .int .i64 0, .int .i64 0, .int .i64 0, .int .i64 0]) (blk_put (cs' := #[.int .i64 0, .int .i64 0, .int .i64 0, .bool false, .int .i64 0, .int .i64 0, .int .i64 0, .int .i64 0, .int .i64 0, .int .i64 0, .int .i64 0, .int .i64 0]) (blk_put (cs' := #[.int .i64 0, .int .i64 0, .int .i64 0, .bool false, .int .i64 0, .int .i64 0, .int .i64 0, .int .i64 0, .int .i64 0, .int .i64 0, .int .i64 0, .int .i64 0]) (blk_put (cs' := #[.int .i64 0, .int .i64 0, .int .i64 0, .bool false, .int .i64 0, .int .i64 0, .int .i64 0, .int .i64 0, .int .i64 0, .int .i64 0, .int .i64 0, .int .i64 0]) (HRB.out) 0 (.int .i64 0) rfl) 1 (.int .i64 0) rfl) 2 (.int .i64 0) rfl) 3 (.bool false) rfl) 4 (.int .i64 0) rfl) 5 (.int .i64 0) rfl) 6 (.int .i64 0) rfl) 7 (.int .i64 0) rfl) 8 (.int .i64 0) rfl) 9 (.int .i64 0) rfl) 10 (.int .i64 0) rfl) 11 (.int .i64 0) rfl) Try.underlying25 rfl (by kernel_rfl)) rfl ?_
      exact ⟨⟨fun _ => rfl, (fun m' r' h => by rw [HDD.out] at h; cases h)⟩, (Ch.set (p := ⟨w.heap.size, 11, none⟩) (Ch.set (p := ⟨w.heap.size, 10, none⟩) (Ch.set (p := ⟨w.heap.size, 9, none⟩) (Ch.set (p := ⟨w.heap.size, 8, none⟩) (Ch.set (p := ⟨w.heap.size, 7, none⟩) (Ch.set (p := ⟨w.heap.size, 6, none⟩) (Ch.set (p := ⟨w.heap.size, 5, none⟩) (Ch.set (p := ⟨w.heap.size, 4, none⟩) (Ch.set (p := ⟨w.heap.size, 3, none⟩) (Ch.set (p := ⟨w.heap.size, 2, none⟩) (Ch.set (p := ⟨w.heap.size, 1, none⟩) (Ch.set (p := ⟨w.heap.size, 0, none⟩) (HC.out) (fun h => absurd h (by show ¬ w.heap.size < _; omega)) (.int .i64 0)) (fun h => absurd h (by show ¬ w.heap.size < _; omega)) (.int .i64 0)) (fun h => absurd h (by show ¬ w.heap.size < _; omega)) (.int .i64 0)) (fun h => absurd h (by show ¬ w.heap.size < _; omega)) (.bool false)) (fun h => absurd h (by show ¬ w.heap.size < _; omega)) (.int .i64 0)) (fun h => absurd h (by show ¬ w.heap.size < _; omega)) (.int .i64 0)) (fun h => absurd h (by show ¬ w.heap.size < _; omega)) (.int .i64 0)) (fun h => absurd h (by show ¬ w.heap.size < _; omega)) (.int .i64 0)) (fun h => absurd h (by show ¬ w.heap.size < _; omega)) (.int .i64 0)) (fun h => absurd h (by show ¬ w.heap.size < _; omega)) (.int .i64 0)) (fun h => absurd h (by show ¬ w.heap.size < _; omega)) (.int .i64 0)) (fun h => absurd h (by show ¬ w.heap.size < _; omega)) (.int .i64 0)).below0⟩
    · have h6b := decide_eq_false h6
      have HDD : Aside0 (dec l = some (m, r)) := ⟨by unfold dec; rw [HD.out]; exact if_neg h6⟩
      obtain ⟨A3, c3, hb3, hc3, hB3, hF3⟩ := HT.out.good
      have g0 := (blk_cell hb3 0).trans rfl
      clear hb3 hF3
      have rg5 : w.heap.size ≠ w.heap.size + 1 := Nat.ne_of_lt hrg
      have rg6 : w.heap.size + 1 ≠ w.heap.size := Nat.ne_of_gt hrg
      have hle : (r.length : Int) ≤ (l.length : Int) := by have := dec_len l m r HDD.out; omega
      have hll : (l.length : Int) ≤ 9223372036854775807 := hmax
      have e9 : IntKind.i64.wrap ((l.length : Int) - (r.length : Int)) = (l.length : Int) - (r.length : Int) := by rw [IntKind.wrap_i64]; omega
      clear hll
      go_wp2_with (fail)
      go_region_held3 (fun w' => w'.cell? ⟨w2.heap.size, 0, none⟩ = some (.int .i64 m.k) ∧ w'.cell? ⟨w2.heap.size, 1, none⟩ = some (.int .i64 m.a) ∧ w'.cell? ⟨w2.heap.size, 2, none⟩ = some (.int .i64 m.s) ∧ w'.cell? ⟨w2.heap.size, 3, none⟩ = some (.bool m.b) ∧ w'.cell? ⟨w2.heap.size, 4, none⟩ = some (.int .i64 m.p) ∧ w'.cell? ⟨w2.heap.size, 5, none⟩ = some (.int .i64 m.q) ∧ w'.cell? ⟨w2.heap.size, 6, none⟩ = some (.int .i64 m.n) ∧ w'.cell? ⟨w2.heap.size, 7, none⟩ = some (.int .i64 m.t) ∧ w'.cell? ⟨w2.heap.size, 8, none⟩ = some (.int .i64 m.i) ∧ w'.cell? ⟨w2.heap.size, 9, none⟩ = some (.int .i64 m.y) ∧ w'.cell? ⟨w2.heap.size, 10, none⟩ = some (.int .i64 m.d) ∧ w'.cell? ⟨w2.heap.size, 11, none⟩ = some (.int .i64 m.m) ∧ w'.cell? ⟨w.heap.size + 1, 0, none⟩ = some (.slice A3 r.length c3)) (go_keep) (fail)
      go_wp2
      refine bodyPost_ret (results_ct rfl _ _ w.heap.size 25 #[.int .i64 m.k, .int .i64 m.a, .int .i64 m.s, .bool m.b, .int .i64 m.p, .int .i64 m.q, .int .i64 m.n, .int .i64 m.t, .int .i64 m.i, .int .i64 m.y, .int .i64 m.d, .int .i64 m.m] (0, 0) _ rfl (by exact blk_drew (blk_put (cs' := #[.int .i64 m.k, .int .i64 m.a, .int .i64 m.s, .bool m.b, .int .i64 m.p, .int .i64 m.q, .int .i64 m.n, .int .i64 m.t, .int .i64 m.i, .int .i64 m.y, .int .i64 m.d, .int .i64 m.m]) (blk_put (cs' := #[.int .i64 m.k, .int .i64 m.a, .int .i64 m.s, .bool m.b, .int .i64 m.p, .int .i64 m.q, .int .i64 m.n, .int .i64 m.t, .int .i64 m.i, .int .i64 m.y, .int .i64 m.d, .int .i64 0]) (blk_put (cs' := #[.int .i64 m.k, .int .i64 m.a, .int .i64 m.s, .bool m.b, .int .i64 m.p, .int .i64 m.q, .int .i64 m.n, .int .i64 m.t, .int .i64 m.i, .int .i64 m.y, .int .i64 0, .int .i64 0]) (blk_put (cs' := #[.int .i64 m.k, .int .i64 m.a, .int .i64 m.s, .bool m.b, .int .i64 m.p, .int .i64 m.q, .int .i64 m.n, .int .i64 m.t, .int .i64 m.i, .int .i64 0, .int .i64 0, .int .i64 0]) (blk_put (cs' := #[.int .i64 m.k, .int .i64 m.a, .int .i64 m.s, .bool m.b, .int .i64 m.p, .int .i64 m.q, .int .i64 m.n, .int .i64 m.t, .int .i64 0, .int .i64 0, .int .i64 0, .int .i64 0]) (blk_put (cs' := #[.int .i64 m.k, .int .i64 m.a, .int .i64 m.s, .bool m.b, .int .i64 m.p, .int .i64 m.q, .int .i64 m.n, .int .i64 0, .int .i64 0, .int .i64 0, .int .i64 0, .int .i64 0]) (blk_put (cs' := #[.int .i64 m.k, .int .i64 m.a, .int .i64 m.s, .bool m.b, .int .i64 m.p, .int .i64 m.q, .int .i64 0, .int .i64 0, .int .i64 0, .int .i64 0, .int .i64 0, .int .i64 0]) (blk_put (cs' := #[.int .i64 m.k, .int .i64 m.a, .int .i64 m.s, .bool m.b, .int .i64 m.p, .int .i64 0, .int .i64 0, .int .i64 0, .int .i64 0, .int .i64 0, .int .i64 0, .int .i64 0]) (blk_put (cs' := #[.int .i64 m.k, .int .i64 m.a, .int .i64 m.s, .bool m.b, .int .i64 0, .int .i64 0, .int .i64 0, .int .i64 0, .int .i64 0, .int .i64 0, .int .i64 0, .int .i64 0]) (blk_put (cs' := #[.int .i64 m.k, .int .i64 m.a, .int .i64 m.s, .bool false, .int .i64 0, .int .i64 0, .int .i64 0, .int .i64 0, .int .i64 0, .int .i64 0, .int .i64 0, .int .i64 0]) (blk_put (cs' := #[.int .i64 m.k, .int .i64 m.a, .int .i64 0, .bool false, .int .i64 0, .int .i64 0, .int .i64 0, .int .i64 0, .int .i64 0, .int .i64 0, .int .i64 0, .int .i64 0]) (blk_put (cs' := #[.int .i64 m.k, .int .i64 0, .int .i64 0, .bool false, .int .i64 0, .int .i64 0, .int .i64 0, .int .i64 0, .int .i64 0, .int .i64 0, .int .i64 0, .int .i64 0]) (HRB.out) 0 (.int .i64 m.k) rfl) 1 (.int .i64 m.a) rfl) 2 (.int .i64 m.s) rfl) 3 (.bool m.b) rfl) 4 (.int .i64 m.p) rfl) 5 (.int .i64 m.q) rfl) 6 (.int .i64 m.n) rfl) 7 (.int .i64 m.t) rfl) 8 (.int .i64 m.i) rfl) 9 (.int .i64 m.y) rfl) 10 (.int .i64 m.d) rfl) 11 (.int .i64 m.m) rfl)) Try.underlying25 rfl (by kernel_rfl)) rfl ?_
      refine ⟨⟨(fun h => by rw [HDD.out] at h; cases h), fun m2 r2 h => ?_⟩, (Ch.drew (Ch.set (p := ⟨w.heap.size, 11, none⟩) (Ch.set (p := ⟨w.heap.size, 10, none⟩) (Ch.set (p := ⟨w.heap.size, 9, none⟩) (Ch.set (p := ⟨w.heap.size, 8, none⟩) (Ch.set (p := ⟨w.heap.size, 7, none⟩) (Ch.set (p := ⟨w.heap.size, 6, none⟩) (Ch.set (p := ⟨w.heap.size, 5, none⟩) (Ch.set (p := ⟨w.heap.size, 4, none⟩) (Ch.set (p := ⟨w.heap.size, 3, none⟩) (Ch.set (p := ⟨w.heap.size, 2, none⟩) (Ch.set (p := ⟨w.heap.size, 1, none⟩) (Ch.set (p := ⟨w.heap.size, 0, none⟩) (HC.out) (fun h => absurd h (by show ¬ w.heap.size < _; omega)) (.int .i64 m.k)) (fun h => absurd h (by show ¬ w.heap.size < _; omega)) (.int .i64 m.a)) (fun h => absurd h (by show ¬ w.heap.size < _; omega)) (.int .i64 m.s)) (fun h => absurd h (by show ¬ w.heap.size < _; omega)) (.bool m.b)) (fun h => absurd h (by show ¬ w.heap.size < _; omega)) (.int .i64 m.p)) (fun h => absurd h (by show ¬ w.heap.size < _; omega)) (.int .i64 m.q)) (fun h => absurd h (by show ¬ w.heap.size < _; omega)) (.int .i64 m.n)) (fun h => absurd h (by show ¬ w.heap.size < _; omega)) (.int .i64 m.t)) (fun h => absurd h (by show ¬ w.heap.size < _; omega)) (.int .i64 m.i)) (fun h => absurd h (by show ¬ w.heap.size < _; omega)) (.int .i64 m.y)) (fun h => absurd h (by show ¬ w.heap.size < _; omega)) (.int .i64 m.d)) (fun h => absurd h (by show ¬ w.heap.size < _; omega)) (.int .i64 m.m))).below0⟩
      rw [HDD.out] at h
      cases h
      rfl
end Go.Proofs.Ytgikjgekdeaneaa.Wire
