/- The law WireOnce walked, by hand. -/
import Derived.Test.YtgikjgekdeaneaaWireE
import Derived.Test.YtgikjgekdeaneaaWireFc
namespace Go.Proofs.Ytgikjgekdeaneaa.Wire
open Go.RowKit Go.Proofs.Ytgikjgekdeaneaa.QWire Go.Proofs.YtgikjgekdeaneaaW.PrintWords Go.Proofs.YtgikjgekdeaneaaW.PrintLast Go.Proofs.YtgikjgekdeaneaaW.PrintMore Go.Proofs.Ytgikjgekdeaneaa.Own
set_option linter.unusedVariables false
set_option linter.unusedSimpArgs false
attribute [local go_sem] max2_int min2_int max_two min_two
attribute [local go_sem high] eqA30
theorem keep_b {W w1 : World} {base base' : Nat} {ok ok' : Nat → Prop} {v3 v4 : Value} {bs : List Int} {ms : List Msg} (hb : (Kd.int .u8).R 5 W base ok v3 bs) (ho : kM.R 30 W base' ok' v4 ms) (hg : W.grownBy w1 v4.ownBlock) : (Kd.int .u8).R 5 w1 base ok v3 bs := by
  refine Kd.R_mono (Kd.R_grown (Kd.R_bound hb) hg (fun k hk e => ?_)) (fun _ h => h.1)
  obtain ⟨_, _, _, q, hq, cells, hc⟩ := hk
  obtain ⟨inner, h1⟩ := Kd.R_own ho
  obtain ⟨cells2, hc2⟩ := own_typed h1 k e.symm
  rw [hc] at hc2
  injection hc2 with hc2
  injection hc2 with _ hc2
  subst hc2
  rcases List.mem_cons.1 hq with h | h
  · cases h
  · cases h
theorem keep_o {W w1 : World} {base base' : Nat} {ok ok' : Nat → Prop} {v3 v4 : Value} {bs : List Int} {ms : List Msg} (ho : kM.R 30 W base' ok' v4 ms) (hb : (Kd.int .u8).R 5 W base ok v3 bs) (hg : W.grownBy w1 v3.ownBlock) : kM.R 30 w1 base' ok' v4 ms := by
  refine Kd.R_mono (Kd.R_grown (Kd.R_bound ho) hg (fun k hk e => ?_)) (fun _ h => h.1)
  obtain ⟨_, _, _, q, hq, cells, hc⟩ := hk
  obtain ⟨inner, h1⟩ := Kd.R_own hb
  obtain ⟨cells2, hc2⟩ := own_typed h1 k e.symm
  rw [hc] at hc2
  injection hc2 with hc2
  injection hc2 with _ hc2
  subst hc2
  rcases List.mem_cons.1 hq with h | h
  · cases h
  · cases h
set_option maxHeartbeats 8000000 in
set_option maxRecDepth 100000 in
theorem once (A0 : Option Addr) (c0 : Nat) (l0 : List Msg) (w : World) (hr : Kd.C kM w A0 l0.length l0) (hc : l0.length ≤ c0) (hM : ∀ m ∈ l0, M64 m) :
  Calls Try.prog 9 #[.slice A0 l0.length c0] w fun e w' => e = .returned (.bool true) ∧ Below w.heap.size w w' := by
 have HR := Aside0.mk hr
 have HM := Aside0.mk hM
 clear hr hM
 go_enter Try.func9, Try.ntmps9
 go_upto_block 0 with (fail)
 go_cut [3, 4] (fun v3 v4 wc => ∃ (ms : List Msg), Aside0 (ms.length ≤ 20 ∧ ∀ m ∈ ms, Right m ∧ Fit m) ∧ Aside0 (kM.R 30 wc w.heap.size (fun _ => True) v4 ms) ∧ Aside0 ((Kd.int .u8).R 5 wc w.heap.size (fun _ => True) v3 (flat ms)) ∧ Aside0 (Below w.heap.size w wc))
 case first =>
  go_wp2_with (fail)
  go_loopg [3, 4, 5] (l0.length + 1) (fun kq v3 v4 v5 w' => ∃ (i : Int) (ms : List Msg), v5 = .int .i64 i ∧ Aside0 ((l0.length : Int) + 1 ≤ kq + i ∧ 0 ≤ i ∧ i ≤ l0.length ∧ i ≤ 20 ∧ (ms.length : Int) = i) ∧ Aside0 (∀ m ∈ ms, Right m ∧ Fit m) ∧ Aside0 (kM.R 30 w' w.heap.size (fun _ => True) v4 ms) ∧ Aside0 ((Kd.int .u8).R 5 w' w.heap.size (fun _ => True) v3 (flat ms)) ∧ Aside0 (Below w.heap.size w w'))
  case atStart => exact ⟨0, [], rfl, ⟨by simp⟩, ⟨fun m hm => by cases hm⟩, ⟨Kd.R_nil _ _ _ _ _⟩, ⟨Kd.R_nil _ _ _ _ _⟩, ⟨Below.refl _ _⟩⟩
  case round =>
   obtain ⟨i, ms, rfl, HI, HF, HO, HB, HW⟩ := hrel
   have hi := HI.out
   by_cases c1 : i < l0.length
   · have c1b := decide_eq_true c1
     by_cases c2 : i < 20
     · have c2b := decide_eq_true c2
       obtain ⟨a1, e1, x0, x1, x2, x3, x4, x5, x6, x7, x8, x9, x10, x11⟩ := at_M (Kd.C_below HR.out HW.out) i hi.2.1 c1
       cases e1
       have p0 := eq_true hi.2.1
       have p1 := eq_true c1
       have e9 : wrap64 (i + 1) = i + 1 := by unfold wrap64; omega
       have hm64 : M64 (rdM l0 i) := HM.out _ (by unfold rdM; rw [List.getD_eq_getElem?_getD, List.getElem?_eq_getElem (by omega)]; exact List.getElem_mem _)
       have HRF := Aside0.mk (fix_right _ hm64)
       have HM6 := Aside0.mk hm64
       clear hm64
       go_wp2_with (fail)
       refine (fix_ (rdM l0 i) HM6.out _).mono ?_
       rintro e w1 ⟨rfl, hb1⟩
       have HW1 := Aside0.mk (below_step HW.out hb1)
       have HO1 := Aside0.mk (Kd.R_below HO.out hb1)
       have HB1 := Aside0.mk (Kd.R_below HB.out hb1)
       clear hb1 x0 x1 x2 x3 x4 x5 x6 x7 x8 x9 x10 x11
       unfold Msg.v
       go_wp2_with (fail)
       refine (to_ _ _ _ _ _ _ _ _ _ _ _ _ _).mono ?_
       rintro e w2 ⟨rfl, hb2⟩
       have HW2 := Aside0.mk (below_step HW1.out hb2)
       have HO2 := Aside0.mk (Kd.R_below HO1.out hb2)
       have HB2 := Aside0.mk (Kd.R_below HB1.out hb2)
       have hown : ∀ k, u4.ownBlock = some k → k < w2.heap.size := fun k hk => by obtain ⟨inner, ho⟩ := Kd.R_own HO2.out; exact own_lt ho k hk
       have HK := Aside0.mk hown
       clear hb2 HW1 HO1 HB1 hown
       go_wp2_with (at_builtin; refine Kd.R_append kM (w0 := w) w.heap.size rfl (.tmp 26) (.tmp 28) 67 30 (.agg #[.int .i64 0, .int .i64 0, .int .i64 0, .bool false, .int .i64 0, .int .i64 0, .int .i64 0, .int .i64 0, .int .i64 0, .int .i64 0, .int .i64 0, .int .i64 0]) 96 rfl Try.underlying67 info30 rfl (by decide) (by omega) u4 ms (fixM (rdM l0 i)) [.int .i64 (fixM (rdM l0 i)).k, .int .i64 (fixM (rdM l0 i)).a, .int .i64 (fixM (rdM l0 i)).s, .bool (fixM (rdM l0 i)).b, .int .i64 (fixM (rdM l0 i)).p, .int .i64 (fixM (rdM l0 i)).q, .int .i64 (fixM (rdM l0 i)).n, .int .i64 (fixM (rdM l0 i)).t, .int .i64 (fixM (rdM l0 i)).i, .int .i64 (fixM (rdM l0 i)).y, .int .i64 (fixM (rdM l0 i)).d, .int .i64 (fixM (rdM l0 i)).m] (fun _ => True) (fun _ => False) rfl (by first | (go_simp; done) | (go_simp; rfl)) ?aP (fun _ hk => hk.elim) ?aF ?aO ?aB ?aS ?aL ?_; (case aP => exact rfl); (case aF => exact fun _ _ => trivial); (case aO => exact Kd.R_alloc HO2.out _); (case aB => exact HW2.out.alloc (below_size HW2.out) _); (case aS => exact below_size (HW2.out.alloc (below_size HW2.out) _)); (case aL => have := HI.out; omega); intro v4' w3 ho hb hg hat; have HO3 := Aside0.mk ho; have HW3 := Aside0.mk hb; have HB3 := Aside0.mk (keep_b (Kd.R_alloc HB2.out _) (Kd.R_alloc HO2.out _) hg); have B3 := Aside0.mk (blk_grown (new_at w2 (.cells #[.int .i64 (fixM (rdM l0 i)).k, .int .i64 (fixM (rdM l0 i)).a, .int .i64 (fixM (rdM l0 i)).s, .bool (fixM (rdM l0 i)).b, .int .i64 (fixM (rdM l0 i)).p, .int .i64 (fixM (rdM l0 i)).q, .int .i64 (fixM (rdM l0 i)).n, .int .i64 (fixM (rdM l0 i)).t, .int .i64 (fixM (rdM l0 i)).i, .int .i64 (fixM (rdM l0 i)).y, .int .i64 (fixM (rdM l0 i)).d, .int .i64 (fixM (rdM l0 i)).m] 30) _ rfl) hg (fun e => Nat.lt_irrefl _ (HK.out _ e.symm))); have z0 := (blk_cell B3.out 0).trans rfl; have z1 := (blk_cell B3.out 1).trans rfl; have z2 := (blk_cell B3.out 2).trans rfl; have z3 := (blk_cell B3.out 3).trans rfl; have z4 := (blk_cell B3.out 4).trans rfl; have z5 := (blk_cell B3.out 5).trans rfl; have z6 := (blk_cell B3.out 6).trans rfl; have z7 := (blk_cell B3.out 7).trans rfl; have z8 := (blk_cell B3.out 8).trans rfl; have z9 := (blk_cell B3.out 9).trans rfl; have z10 := (blk_cell B3.out 10).trans rfl; have z11 := (blk_cell B3.out 11).trans rfl; clear ho hb hg hat; refine stop_ ?_)
       unfold Stop
       go_wp2_with (fail)
       refine (wire_Encode.calls 20 (fixM (rdM l0 i)).k (fixM (rdM l0 i)).a (fixM (rdM l0 i)).s (fixM (rdM l0 i)).b (fixM (rdM l0 i)).p (fixM (rdM l0 i)).q (fixM (rdM l0 i)).n (fixM (rdM l0 i)).t (fixM (rdM l0 i)).i (fixM (rdM l0 i)).y (fixM (rdM l0 i)).d (fixM (rdM l0 i)).m _ _ (encode_yes _ HRF.out.1)).mono ?_
       rintro e w4 ⟨v, rfl, ho, hb4⟩
       obtain ⟨A5, c5, rfl, hc5, hC5⟩ := Kd.R_reads ho
       have HC5 := Aside0.mk hC5
       have HW4 := Aside0.mk (below_step HW3.out hb4)
       have HO4 := Aside0.mk (Kd.R_below HO3.out hb4)
       have HB4 := Aside0.mk (Kd.R_below HB3.out hb4)
       clear ho hb4 hC5 HW2 HO2 HB2 HW3 HO3 HB3 B3 HK z0 z1 z2 z3 z4 z5 z6 z7 z8 z9 z10 z11
       go_wp2_with (at_builtin; refine Kd.R_append_rows (Kd.int .u8) (w0 := w) w.heap.size rfl (.tmp 30) (.tmp 32) 26 5 (.int .u8 0) 1 rfl Try.underlying26 info5' rfl (by decide) (by omega) u3 (flat ms) (enc (fixM (rdM l0 i))) _ _ _ (fun _ => True) (fun _ => False) rfl rfl ?aO ?aR (fun _ _ h => h) (fun _ h => h.elim) ?aF ?aB ?aS ?aL ?_; (case aR => exact HC5.out); (case aB => exact HW4.out); (case aF => exact (fun _ _ => trivial)); (case aO => exact HB4.out); (case aS => exact below_size HW4.out); (case aL => have h1 := flat_len ms; have h2 := enc_len (fixM (rdM l0 i)); have h3 := HI.out; omega); intro v3' w5 ho hb hg hat; have HB5 := Aside0.mk ho; have HW5 := Aside0.mk hb; have HO5 := Aside0.mk (keep_o HO4.out HB4.out hg); clear ho hb hg hat)
       go_roundg ((l0.length : Int) - i).toNat
       case measure => omega
       case rel => exact ⟨i + 1, ms ++ [fixM (rdM l0 i)], rfl, ⟨by simp; omega⟩, ⟨fun m hm => (List.mem_append.1 hm).elim (HF.out m) (fun h => by rw [List.mem_singleton.1 h]; exact HRF.out)⟩, HO5, ⟨by rw [flat_snoc]; exact HB5.out⟩, HW5⟩
     · have c2b := decide_eq_false c2
       go_wp2_with (fail)
       go_meet
       case rel => exact ⟨ms, ⟨by omega, HF.out⟩, HO, HB, HW⟩
   · have c1b := decide_eq_false c1
     go_wp2_with (fail)
     go_meet
     case rel => exact ⟨ms, ⟨by omega, HF.out⟩, HO, HB, HW⟩
 case rest =>
  obtain ⟨ms, HI, HO, HB, HW⟩ := hcut
  obtain ⟨A3, c3, rfl, hc3, hC3⟩ := Kd.R_reads HB.out
  obtain ⟨A4, c4, rfl, hc4, hC4⟩ := Kd.R_reads HO.out
  have HC3 := Aside0.mk hC3
  have HC4 := Aside0.mk hC4
  clear hC3 hC4 HO HB
  go_wp2_with (fail)
  refine (all_ A3 c3 (flat ms) _ HC3.out hc3 (flat_bytes ms) (by have h1 := flat_len ms; have h2 := HI.out.1; omega)).mono ?_
  rintro e w1 ⟨⟨A7, c7, he, hc7, hC7⟩, hb1⟩
  rw [all_flat ms HI.out.2] at he hc7 hC7
  subst he
  have HC7 := Aside0.mk hC7
  have HC5 := Aside0.mk (Kd.C_below HC4.out hb1)
  have HW1 := Aside0.mk (below_step HW.out hb1)
  have hml : ms.length ≤ 9223372036854775807 := HC4.out.2.1
  clear hC7 hb1 HC3 HC4 HW
  unfold code
  go_wp2_with (fail)
  refine (told _).mono ?_
  rintro e w2 ⟨rfl, hb2⟩
  have HC8 := Aside0.mk (Kd.C_below HC7.out hb2)
  have HC9 := Aside0.mk (Kd.C_below HC5.out hb2)
  have HW2 := Aside0.mk (below_step HW1.out hb2)
  clear hb2 HC7 HC5 HW1
  go_wp2_with (fail)
  go_loopg [9] (ms.length + 1) (fun kq v9 w' => ∃ i : Int, v9 = .int .i64 i ∧ Aside0 ((ms.length : Int) + 1 ≤ kq + i ∧ 0 ≤ i ∧ i ≤ ms.length) ∧ Aside0 (Kd.C kM w' A7 ms.length ms) ∧ Aside0 (Kd.C kM w' A4 ms.length ms) ∧ Aside0 (Below w.heap.size w w'))
  case atStart => exact ⟨0, rfl, ⟨by omega⟩, HC8, HC9, HW2⟩
  case round =>
   obtain ⟨i, rfl, HJ, HX, HY, HZ⟩ := hrel
   have hi := HJ.out
   clear HC8 HC9 HW2
   by_cases c1 : i < ms.length
   · have c1b := decide_eq_true c1
     have hright : Right (rdM ms i) := (HI.out.2 _ (by unfold rdM; rw [List.getD_eq_getElem?_getD, List.getElem?_eq_getElem (by omega)]; exact List.getElem_mem _)).1
     have HRT := Aside0.mk ((right_f (rdM ms i) 19).1 hright)
     obtain ⟨a1, e1, x0, x1, x2, x3, x4, x5, x6, x7, x8, x9, x10, x11⟩ := at_M HX.out i hi.2.1 c1
     obtain ⟨a2, e2, y0, y1, y2, y3, y4, y5, y6, y7, y8, y9, y10, y11⟩ := at_M HY.out i hi.2.1 c1
     cases e1
     cases e2
     have p0 := eq_true hi.2.1
     have p1 := eq_true c1
     have e9 : wrap64 (i + 1) = i + 1 := by unfold wrap64; omega
     clear hright
     go_wp2_with (fail)
     go_region_with (go_at_call 19; refine (wire_Right.calls 20 _ _ _ _ _ _ _ _ _ _ _ _ true _ HRT.out).mono ?_; rintro e w9 ⟨rfl, hb⟩; have HX9 := Aside0.mk (C_b hb HX.out); have HY9 := Aside0.mk (C_b hb HY.out); have HZ9 := Aside0.mk (bel_b HZ.out hb); clear hb)
     all_goals
      clear x0 y0 x1 y1 x2 y2 x3 y3 x4 y4 x5 y5 x6 y6 x7 y7 x8 y8 x9 y9 x10 y10 x11 y11
      go_wp2_with (fail)
      go_roundg ((ms.length : Int) - i).toNat
      case measure => omega
      case rel => exact ⟨i + 1, rfl, ⟨by omega⟩, HX9, HY9, HZ9⟩
   · have c1b := decide_eq_false c1
     go_wp2_with (fail)
     go_ret
     exact ⟨rfl, HZ.out⟩
end Go.Proofs.Ytgikjgekdeaneaa.Wire
