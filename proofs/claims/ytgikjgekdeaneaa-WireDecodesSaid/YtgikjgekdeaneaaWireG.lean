/- The law WireDecodes walked, by hand. -/
import Derived.Test.YtgikjgekdeaneaaWireE
import Derived.Test.YtgikjgekdeaneaaWireX
import Derived.Test.YtgikjgekdeaneaaSeq
namespace Go.Proofs.Ytgikjgekdeaneaa.Wire
open Go.RowKit Go.Proofs.Ytgikjgekdeaneaa.Seq Go.Proofs.Ytgikjgekdeaneaa.QWire Go.Proofs.YtgikjgekdeaneaaW.PrintWords Go.Proofs.YtgikjgekdeaneaaW.PrintLast Go.Proofs.YtgikjgekdeaneaaW.PrintMore Go.Proofs.Ytgikjgekdeaneaa.Own
set_option linter.unusedVariables false
set_option linter.unusedSimpArgs false
attribute [local go_sem] max2_int min2_int max_two min_two
attribute [local go_sem high] eqA25
set_option maxHeartbeats 8000000 in
set_option maxRecDepth 100000 in
theorem decodes_none (A0 : Option Addr) (c0 : Nat) (l0 l1 : List Int) (w : World) (hl1 : l1 = l0.take (min l0.length 100)) (hr : Kd.C (Kd.int .u8) w A0 l0.length l0) (hc : l0.length ≤ c0) (hB : Bytes l0) (hd : dec l1 = none) :
  Calls Try.prog 4 #[.slice A0 l0.length c0] w fun e w' => e = .returned (.bool true) ∧ Below w.heap.size w w' := by
 have hlt : l1.length = min l0.length 100 := by rw [hl1, List.length_take]; omega
 have hif : (if (100 : Int) < (l0.length : Int) then (100 : Int) else (l0.length : Int)) = (l1.length : Int) := by split <;> omega
 have q0 := eq_true (show (l1.length : Int) ≤ (c0 : Int) by omega)
 have HC1 : Aside0 (Kd.C (Kd.int .u8) w A0 l1.length l1) := ⟨by rw [hl1]; exact Kd.C_take hr (by omega)⟩
 have HN := Aside0.mk (show l1.length ≤ 100 ∧ l1.length ≤ c0 by omega)
 have HB1 : Aside0 (Bytes l1) := ⟨by rw [hl1]; exact hB.take _⟩
 have HD := Aside0.mk hd
 clear hr hlt hl1 hB hd hc
 go_enter Try.func4, Try.ntmps4
 go_wp2_with (first | ((with_reducible refine gate_dst (N := 14) rfl ?_); refine Kd.R_lit (Kd.int .u8) _ 5 ?hg (N := 14) ?hd (xs := ([] : List Int)) (inner := []) (ok := fun _ => True) (okp := fun _ => True) ?hr ?hp (fun _ hk => hk) trivial (Below.refl _ _) (Nat.le_refl _) (by simp) ?_; (case hd => rfl); (case hg => rfl); (case hr => first | (go_simp; done) | (go_simp; rfl)); (case hp => exact (Reps.none _ _)); intro v1 w1 ho hb hg_ hnew_; clear hg_ hnew_; have HO1 := Aside0.mk ho; have HW1 := Aside0.mk hb; clear hb ho) | ((with_reducible refine gate_builtin (b := .append) (xs := #[.tmp 14, .tmp 15]) rfl ?_); at_builtin; refine Kd.R_append_rows (Kd.int .u8) (w0 := w) w.heap.size rfl (.tmp 14) (.tmp 15) 26 5 (.int .u8 0) 1 rfl Try.underlying26 info5' rfl (by decide) (by omega) v1 [] l1 _ _ _ (fun _ => True) (fun _ => False) rfl rfl ?aO ?aR (fun _ _ h => h) (fun _ h => h.elim) ?aF ?aB ?aS ?aL ?_; (case aR => exact Kd.C_below HC1.out HW1.out); (case aB => exact HW1.out); (case aF => exact (fun _ _ => trivial)); (case aO => exact HO1.out); (case aS => exact HW1.out.size); (case aL => have := HN.out; simp; omega); intro v2 w2 ho hb hg hat; have HO2 := Aside0.mk ho; have HW2 := Aside0.mk hb; clear HO1 HW1 ho hb hg hat))
 obtain ⟨A2, c2, hv2, hc2, hC2⟩ := Kd.R_reads HO2.out
 rw [List.nil_append] at hv2 hc2 hC2
 subst hv2
 have HC2 := Aside0.mk hC2
 clear hC2 HO2
 refine (decode_ A2 c2 l1 _ HC2.out hc2 HB1.out (by have := HN.out; omega)).mono ?_
 rintro e w3 ⟨hd, hb3⟩
 have HC3 := Aside0.mk (Kd.C_below HC2.out hb3)
 have HW3 := Aside0.mk (below_step HW2.out hb3)
 have he := hd.no HD.out
 subst he
 clear hd hb3 HC2 HW2
 unfold Msg.v zero
 go_wp2_with (fail)
 refine (rdecode_ A0 c0 l1 _ (Kd.C_below HC1.out (HW3.out.alloc (below_size HW3.out) _)) HN.out.2 HB1.out).mono ?_
 rintro e w4 ⟨hd, hb4⟩
 have he := hd.no HD.out
 subst he
 have B4 := Aside0.mk (blk_alloc (blk_below (new_at w3 (.cells #[.int .i64 0, .int .i64 0, .int .i64 0, .bool false, .int .i64 0, .int .i64 0, .int .i64 0, .int .i64 0, .int .i64 0, .int .i64 0, .int .i64 0, .int .i64 0] 30) _ rfl) hb4) (.cells #[.int .i64 0, .int .i64 0, .int .i64 0, .bool false, .int .i64 0, .int .i64 0, .int .i64 0, .int .i64 0, .int .i64 0, .int .i64 0, .int .i64 0, .int .i64 0] 25))
 have B7 := Aside0.mk (new_at w4 (.cells #[.int .i64 0, .int .i64 0, .int .i64 0, .bool false, .int .i64 0, .int .i64 0, .int .i64 0, .int .i64 0, .int .i64 0, .int .i64 0, .int .i64 0, .int .i64 0] 25) _ rfl)
 have HC4 := Aside0.mk (Kd.C_alloc (Kd.C_below (Kd.C_alloc HC3.out (.cells #[.int .i64 0, .int .i64 0, .int .i64 0, .bool false, .int .i64 0, .int .i64 0, .int .i64 0, .int .i64 0, .int .i64 0, .int .i64 0, .int .i64 0, .int .i64 0] 30)) hb4) (.cells #[.int .i64 0, .int .i64 0, .int .i64 0, .bool false, .int .i64 0, .int .i64 0, .int .i64 0, .int .i64 0, .int .i64 0, .int .i64 0, .int .i64 0, .int .i64 0] 25))
 have HB4 := Aside0.mk (HW3.out.alloc (below_size HW3.out) (.cells #[.int .i64 0, .int .i64 0, .int .i64 0, .bool false, .int .i64 0, .int .i64 0, .int .i64 0, .int .i64 0, .int .i64 0, .int .i64 0, .int .i64 0, .int .i64 0] 30) |>.trans (hb4.mono (below_size (HW3.out.alloc (below_size HW3.out) _))))
 have HW4 := Aside0.mk (HB4.out.alloc (below_size HB4.out) (.cells #[.int .i64 0, .int .i64 0, .int .i64 0, .bool false, .int .i64 0, .int .i64 0, .int .i64 0, .int .i64 0, .int .i64 0, .int .i64 0, .int .i64 0, .int .i64 0] 25))
 have HX4 := Aside0.mk (Kd.C_below HC1.out HW4.out)
 clear hd hb4 HC3 HW3 HB4 HC1
 unfold Msg.v zero
 go_wp2_with (fail)
 have T : (fun w' => Aside0 (w'.heap[w3.heap.size]? = some (.cells #[.int .i64 0, .int .i64 0, .int .i64 0, .bool false, .int .i64 0, .int .i64 0, .int .i64 0, .int .i64 0, .int .i64 0, .int .i64 0, .int .i64 0, .int .i64 0] 30)) ∧ Aside0 (w'.heap[w4.heap.size]? = some (.cells #[.int .i64 0, .int .i64 0, .int .i64 0, .bool false, .int .i64 0, .int .i64 0, .int .i64 0, .int .i64 0, .int .i64 0, .int .i64 0, .int .i64 0, .int .i64 0] 25)) ∧ Aside0 (Kd.C (Kd.int .u8) w' A2 l1.length l1) ∧ Aside0 (Kd.C (Kd.int .u8) w' A0 l1.length l1) ∧ Aside0 (Below w.heap.size w w')) (World.drew (w4.alloc (.cells #[.int .i64 0, .int .i64 0, .int .i64 0, .bool false, .int .i64 0, .int .i64 0, .int .i64 0, .int .i64 0, .int .i64 0, .int .i64 0, .int .i64 0, .int .i64 0] 25))) := ⟨⟨blk_drew B4.out⟩, ⟨blk_drew B7.out⟩, ⟨HC4.out⟩, ⟨HX4.out⟩, ⟨HW4.out.drew⟩⟩
 refine wp_region_seq (fun w' => Aside0 (w'.heap[w3.heap.size]? = some (.cells #[.int .i64 0, .int .i64 0, .int .i64 0, .bool false, .int .i64 0, .int .i64 0, .int .i64 0, .int .i64 0, .int .i64 0, .int .i64 0, .int .i64 0, .int .i64 0] 30)) ∧ Aside0 (w'.heap[w4.heap.size]? = some (.cells #[.int .i64 0, .int .i64 0, .int .i64 0, .bool false, .int .i64 0, .int .i64 0, .int .i64 0, .int .i64 0, .int .i64 0, .int .i64 0, .int .i64 0, .int .i64 0] 25)) ∧ Aside0 (Kd.C (Kd.int .u8) w' A2 l1.length l1) ∧ Aside0 (Kd.C (Kd.int .u8) w' A0 l1.length l1) ∧ Aside0 (Below w.heap.size w w')) [0, 4] [0, 1, 2, 3, 5, 4, 6, 7, 8, 9, 10, 11, 12, 13, 14, 15, 16, 17, 18, 19, 20, 21, 22, 23, 24, 25, 26, 27, 28, 29, 30, 31, 32, 33, 34] (by kernel_rfl) (by kernel_rfl) (by kernel_rfl) (by kernel_rfl) (by kernel_rfl) (fun _ _ d _ _ h => by cases d <;> exact h) ?h0 ?hseq
 case h0 => exact T
 case hseq =>
  refine seq_op rfl (by kernel_rfl) (by rfl) (fun K hK => ?_)
  go_simp
  go_at_call 18
  refine (told _).mono ?_
  rintro e u1 ⟨rfl, hb⟩
  obtain ⟨t0, t1, t2, t3, t4⟩ := T
  refine hK _ _ ⟨⟨blk_below t0.out hb⟩, ⟨blk_below t1.out hb⟩, ⟨Kd.C_below t2.out hb⟩, ⟨Kd.C_below t3.out hb⟩, ⟨below_step t4.out hb⟩⟩ ?_
  have T : (fun w' => Aside0 (w'.heap[w3.heap.size]? = some (.cells #[.int .i64 0, .int .i64 0, .int .i64 0, .bool false, .int .i64 0, .int .i64 0, .int .i64 0, .int .i64 0, .int .i64 0, .int .i64 0, .int .i64 0, .int .i64 0] 30)) ∧ Aside0 (w'.heap[w4.heap.size]? = some (.cells #[.int .i64 0, .int .i64 0, .int .i64 0, .bool false, .int .i64 0, .int .i64 0, .int .i64 0, .int .i64 0, .int .i64 0, .int .i64 0, .int .i64 0, .int .i64 0] 25)) ∧ Aside0 (Kd.C (Kd.int .u8) w' A2 l1.length l1) ∧ Aside0 (Kd.C (Kd.int .u8) w' A0 l1.length l1) ∧ Aside0 (Below w.heap.size w w')) u1 := ⟨⟨blk_below t0.out hb⟩, ⟨blk_below t1.out hb⟩, ⟨Kd.C_below t2.out hb⟩, ⟨Kd.C_below t3.out hb⟩, ⟨below_step t4.out hb⟩⟩
  clear hK K hb t0 t1 t2 t3 t4 B4 B7 HC4 HX4 HW4
  first | (refine seq_val (v := ?_) (a' := ?_) rfl ?_ ?_ ?_ ?_; rotate_left 2; (· rfl); (· intro w0 hS; go_simp; first | done | with_reducible rfl); (· go_simp; first | done | with_reducible rfl)) | (refine seq_off (a' := ?_) rfl ?_ ?_ ?_; rotate_left 1; (· rfl); (· go_simp; first | done | with_reducible rfl))
  first | (refine seq_val (v := ?_) (a' := ?_) rfl ?_ ?_ ?_ ?_; rotate_left 2; (· rfl); (· intro w0 hS; go_simp; first | done | with_reducible rfl); (· go_simp; first | done | with_reducible rfl)) | (refine seq_off (a' := ?_) rfl ?_ ?_ ?_; rotate_left 1; (· rfl); (· go_simp; first | done | with_reducible rfl))
  first | (refine seq_val (v := ?_) (a' := ?_) rfl ?_ ?_ ?_ ?_; rotate_left 2; (· rfl); (· intro w0 hS; obtain ⟨s0, s1, s2, s3, s4⟩ := hS; have x0 := (blk_cell s0.out 0).trans rfl; have x1 := (blk_cell s0.out 1).trans rfl; have x2 := (blk_cell s0.out 2).trans rfl; have x3 := (blk_cell s0.out 3).trans rfl; have x4 := (blk_cell s0.out 4).trans rfl; have x5 := (blk_cell s0.out 5).trans rfl; have x6 := (blk_cell s0.out 6).trans rfl; have x7 := (blk_cell s0.out 7).trans rfl; have x8 := (blk_cell s0.out 8).trans rfl; have x9 := (blk_cell s0.out 9).trans rfl; have x10 := (blk_cell s0.out 10).trans rfl; have x11 := (blk_cell s0.out 11).trans rfl; go_simp; first | done | with_reducible rfl); (· go_simp; first | done | with_reducible rfl)) | (refine seq_off (a' := ?_) rfl ?_ ?_ ?_; rotate_left 1; (· rfl); (· go_simp; first | done | with_reducible rfl))
  first | (refine seq_val (v := ?_) (a' := ?_) rfl ?_ ?_ ?_ ?_; rotate_left 2; (· rfl); (· intro w0 hS; obtain ⟨s0, s1, s2, s3, s4⟩ := hS; have x0 := (blk_cell s1.out 0).trans rfl; have x1 := (blk_cell s1.out 1).trans rfl; have x2 := (blk_cell s1.out 2).trans rfl; have x3 := (blk_cell s1.out 3).trans rfl; have x4 := (blk_cell s1.out 4).trans rfl; have x5 := (blk_cell s1.out 5).trans rfl; have x6 := (blk_cell s1.out 6).trans rfl; have x7 := (blk_cell s1.out 7).trans rfl; have x8 := (blk_cell s1.out 8).trans rfl; have x9 := (blk_cell s1.out 9).trans rfl; have x10 := (blk_cell s1.out 10).trans rfl; have x11 := (blk_cell s1.out 11).trans rfl; go_simp; first | done | with_reducible rfl); (· go_simp; first | done | with_reducible rfl)) | (refine seq_off (a' := ?_) rfl ?_ ?_ ?_; rotate_left 1; (· rfl); (· go_simp; first | done | with_reducible rfl))
  refine seq_op rfl (by kernel_rfl) (by rfl) (fun K hK => ?_)
  go_simp
  go_at_call 23
  refine (from_ _ _ _ _ _ _ _ _ _ _ _ _ _).mono ?_
  rintro e u2 ⟨rfl, hb⟩
  obtain ⟨t0, t1, t2, t3, t4⟩ := T
  have T : (fun w' => Aside0 (w'.heap[w3.heap.size]? = some (.cells #[.int .i64 0, .int .i64 0, .int .i64 0, .bool false, .int .i64 0, .int .i64 0, .int .i64 0, .int .i64 0, .int .i64 0, .int .i64 0, .int .i64 0, .int .i64 0] 30)) ∧ Aside0 (w'.heap[w4.heap.size]? = some (.cells #[.int .i64 0, .int .i64 0, .int .i64 0, .bool false, .int .i64 0, .int .i64 0, .int .i64 0, .int .i64 0, .int .i64 0, .int .i64 0, .int .i64 0, .int .i64 0] 25)) ∧ Aside0 (Kd.C (Kd.int .u8) w' A2 l1.length l1) ∧ Aside0 (Kd.C (Kd.int .u8) w' A0 l1.length l1) ∧ Aside0 (Below w.heap.size w w')) u2 := ⟨⟨blk_below t0.out hb⟩, ⟨blk_below t1.out hb⟩, ⟨Kd.C_below t2.out hb⟩, ⟨Kd.C_below t3.out hb⟩, ⟨below_step t4.out hb⟩⟩
  refine hK _ _ T ?_
  clear hK K hb t0 t1 t2 t3 t4
  first | (refine seq_val (v := ?_) (a' := ?_) rfl ?_ ?_ ?_ ?_; rotate_left 2; (· rfl); (· intro w0 hS; go_simp; first | done | with_reducible rfl); (· go_simp; first | done | with_reducible rfl)) | (refine seq_off (a' := ?_) rfl ?_ ?_ ?_; rotate_left 1; (· rfl); (· go_simp; first | done | with_reducible rfl))
  first | (refine seq_val (v := ?_) (a' := ?_) rfl ?_ ?_ ?_ ?_; rotate_left 2; (· rfl); (· intro w0 hS; go_simp; first | done | with_reducible rfl); (· go_simp; first | done | with_reducible rfl)) | (refine seq_off (a' := ?_) rfl ?_ ?_ ?_; rotate_left 1; (· rfl); (· go_simp; first | done | with_reducible rfl))
  first | (refine seq_val (v := ?_) (a' := ?_) rfl ?_ ?_ ?_ ?_; rotate_left 2; (· rfl); (· intro w0 hS; go_simp; first | done | with_reducible rfl); (· go_simp; first | done | with_reducible rfl)) | (refine seq_off (a' := ?_) rfl ?_ ?_ ?_; rotate_left 1; (· rfl); (· go_simp; first | done | with_reducible rfl))
  first | (refine seq_val (v := ?_) (a' := ?_) rfl ?_ ?_ ?_ ?_; rotate_left 2; (· rfl); (· intro w0 hS; go_simp; first | done | with_reducible rfl); (· go_simp; first | done | with_reducible rfl)) | (refine seq_off (a' := ?_) rfl ?_ ?_ ?_; rotate_left 1; (· rfl); (· go_simp; first | done | with_reducible rfl))
  first | (refine seq_val (v := ?_) (a' := ?_) rfl ?_ ?_ ?_ ?_; rotate_left 2; (· rfl); (· intro w0 hS; go_simp; first | done | with_reducible rfl); (· go_simp; first | done | with_reducible rfl)) | (refine seq_off (a' := ?_) rfl ?_ ?_ ?_; rotate_left 1; (· rfl); (· go_simp; first | done | with_reducible rfl))
  first | (refine seq_val (v := ?_) (a' := ?_) rfl ?_ ?_ ?_ ?_; rotate_left 2; (· rfl); (· intro w0 hS; go_simp; first | done | with_reducible rfl); (· go_simp; first | done | with_reducible rfl)) | (refine seq_off (a' := ?_) rfl ?_ ?_ ?_; rotate_left 1; (· rfl); (· go_simp; first | done | with_reducible rfl))
  first | (refine seq_val (v := ?_) (a' := ?_) rfl ?_ ?_ ?_ ?_; rotate_left 2; (· rfl); (· intro w0 hS; go_simp; first | done | with_reducible rfl); (· go_simp; first | done | with_reducible rfl)) | (refine seq_off (a' := ?_) rfl ?_ ?_ ?_; rotate_left 1; (· rfl); (· go_simp; first | done | with_reducible rfl))
  first | (refine seq_val (v := ?_) (a' := ?_) rfl ?_ ?_ ?_ ?_; rotate_left 2; (· rfl); (· intro w0 hS; go_simp; first | done | with_reducible rfl); (· go_simp; first | done | with_reducible rfl)) | (refine seq_off (a' := ?_) rfl ?_ ?_ ?_; rotate_left 1; (· rfl); (· go_simp; first | done | with_reducible rfl))
  first | (refine seq_val (v := ?_) (a' := ?_) rfl ?_ ?_ ?_ ?_; rotate_left 2; (· rfl); (· intro w0 hS; go_simp; first | done | with_reducible rfl); (· go_simp; first | done | with_reducible rfl)) | (refine seq_off (a' := ?_) rfl ?_ ?_ ?_; rotate_left 1; (· rfl); (· go_simp; first | done | with_reducible rfl))
  first | (refine seq_val (v := ?_) (a' := ?_) rfl ?_ ?_ ?_ ?_; rotate_left 2; (· rfl); (· intro w0 hS; go_simp; first | done | with_reducible rfl); (· go_simp; first | done | with_reducible rfl)) | (refine seq_off (a' := ?_) rfl ?_ ?_ ?_; rotate_left 1; (· rfl); (· go_simp; first | done | with_reducible rfl))
  first | (refine seq_val (v := ?_) (a' := ?_) rfl ?_ ?_ ?_ ?_; rotate_left 2; (· rfl); (· intro w0 hS; go_simp; first | done | with_reducible rfl); (· go_simp; first | done | with_reducible rfl)) | (refine seq_off (a' := ?_) rfl ?_ ?_ ?_; rotate_left 1; (· rfl); (· go_simp; first | done | with_reducible rfl))
  first | (refine seq_val (v := ?_) (a' := ?_) rfl ?_ ?_ ?_ ?_; rotate_left 2; (· rfl); (· intro w0 hS; go_simp; first | done | with_reducible rfl); (· go_simp; first | done | with_reducible rfl)) | (refine seq_off (a' := ?_) rfl ?_ ?_ ?_; rotate_left 1; (· rfl); (· go_simp; first | done | with_reducible rfl))
  first | (refine seq_val (v := ?_) (a' := ?_) rfl ?_ ?_ ?_ ?_; rotate_left 2; (· rfl); (· intro w0 hS; go_simp; first | done | with_reducible rfl); (· go_simp; first | done | with_reducible rfl)) | (refine seq_off (a' := ?_) rfl ?_ ?_ ?_; rotate_left 1; (· rfl); (· go_simp; first | done | with_reducible rfl))
  first | (refine seq_val (v := ?_) (a' := ?_) rfl ?_ ?_ ?_ ?_; rotate_left 2; (· rfl); (· intro w0 hS; go_simp; first | done | with_reducible rfl); (· go_simp; first | done | with_reducible rfl)) | (refine seq_off (a' := ?_) rfl ?_ ?_ ?_; rotate_left 1; (· rfl); (· go_simp; first | done | with_reducible rfl))
  first | (refine seq_val (v := ?_) (a' := ?_) rfl ?_ ?_ ?_ ?_; rotate_left 2; (· rfl); (· intro w0 hS; go_simp; first | done | with_reducible rfl); (· go_simp; first | done | with_reducible rfl)) | (refine seq_off (a' := ?_) rfl ?_ ?_ ?_; rotate_left 1; (· rfl); (· go_simp; first | done | with_reducible rfl))
  first | (refine seq_val (v := ?_) (a' := ?_) rfl ?_ ?_ ?_ ?_; rotate_left 2; (· rfl); (· intro w0 hS; go_simp; first | done | with_reducible rfl); (· go_simp; first | done | with_reducible rfl)) | (refine seq_off (a' := ?_) rfl ?_ ?_ ?_; rotate_left 1; (· rfl); (· go_simp; first | done | with_reducible rfl))
  first | (refine seq_val (v := ?_) (a' := ?_) rfl ?_ ?_ ?_ ?_; rotate_left 2; (· rfl); (· intro w0 hS; go_simp; first | done | with_reducible rfl); (· go_simp; first | done | with_reducible rfl)) | (refine seq_off (a' := ?_) rfl ?_ ?_ ?_; rotate_left 1; (· rfl); (· go_simp; first | done | with_reducible rfl))
  first | (refine seq_val (v := ?_) (a' := ?_) rfl ?_ ?_ ?_ ?_; rotate_left 2; (· rfl); (· intro w0 hS; go_simp; first | done | with_reducible rfl); (· go_simp; first | done | with_reducible rfl)) | (refine seq_off (a' := ?_) rfl ?_ ?_ ?_; rotate_left 1; (· rfl); (· go_simp; first | done | with_reducible rfl))
  first | (refine seq_val (v := ?_) (a' := ?_) rfl ?_ ?_ ?_ ?_; rotate_left 2; (· rfl); (· intro w0 hS; go_simp; first | done | with_reducible rfl); (· go_simp; first | done | with_reducible rfl)) | (refine seq_off (a' := ?_) rfl ?_ ?_ ?_; rotate_left 1; (· rfl); (· go_simp; first | done | with_reducible rfl))
  first | (refine seq_val (v := ?_) (a' := ?_) rfl ?_ ?_ ?_ ?_; rotate_left 2; (· rfl); (· intro w0 hS; go_simp; first | done | with_reducible rfl); (· go_simp; first | done | with_reducible rfl)) | (refine seq_off (a' := ?_) rfl ?_ ?_ ?_; rotate_left 1; (· rfl); (· go_simp; first | done | with_reducible rfl))
  first | (refine seq_val (v := ?_) (a' := ?_) rfl ?_ ?_ ?_ ?_; rotate_left 2; (· rfl); (· intro w0 hS; go_simp; first | done | with_reducible rfl); (· go_simp; first | done | with_reducible rfl)) | (refine seq_off (a' := ?_) rfl ?_ ?_ ?_; rotate_left 1; (· rfl); (· go_simp; first | done | with_reducible rfl))
  first | (refine seq_val (v := ?_) (a' := ?_) rfl ?_ ?_ ?_ ?_; rotate_left 2; (· rfl); (· intro w0 hS; go_simp; first | done | with_reducible rfl); (· go_simp; first | done | with_reducible rfl)) | (refine seq_off (a' := ?_) rfl ?_ ?_ ?_; rotate_left 1; (· rfl); (· go_simp; first | done | with_reducible rfl))
  first | (refine seq_val (v := ?_) (a' := ?_) rfl ?_ ?_ ?_ ?_; rotate_left 2; (· rfl); (· intro w0 hS; go_simp; first | done | with_reducible rfl); (· go_simp; first | done | with_reducible rfl)) | (refine seq_off (a' := ?_) rfl ?_ ?_ ?_; rotate_left 1; (· rfl); (· go_simp; first | done | with_reducible rfl))
  first | (refine seq_val (v := ?_) (a' := ?_) rfl ?_ ?_ ?_ ?_; rotate_left 2; (· rfl); (· intro w0 hS; go_simp; first | done | with_reducible rfl); (· go_simp; first | done | with_reducible rfl)) | (refine seq_off (a' := ?_) rfl ?_ ?_ ?_; rotate_left 1; (· rfl); (· go_simp; first | done | with_reducible rfl))
  first | (refine seq_val (v := ?_) (a' := ?_) rfl ?_ ?_ ?_ ?_; rotate_left 2; (· rfl); (· intro w0 hS; obtain ⟨s0, s1, s2, s3, s4⟩ := hS; have hs := Kd.C_string (c := c2) Try.underlying26 Try.underlying5 Try.underlying9 s2.out; go_simp; first | done | with_reducible rfl); (· go_simp; first | done | with_reducible rfl)) | (refine seq_off (a' := ?_) rfl ?_ ?_ ?_; rotate_left 1; (· rfl); (· go_simp; first | done | with_reducible rfl))
  first | (refine seq_val (v := ?_) (a' := ?_) rfl ?_ ?_ ?_ ?_; rotate_left 2; (· rfl); (· intro w0 hS; go_simp; first | done | with_reducible rfl); (· go_simp; first | done | with_reducible rfl)) | (refine seq_off (a' := ?_) rfl ?_ ?_ ?_; rotate_left 1; (· rfl); (· go_simp; first | done | with_reducible rfl))
  first | (refine seq_val (v := ?_) (a' := ?_) rfl ?_ ?_ ?_ ?_; rotate_left 2; (· rfl); (· intro w0 hS; obtain ⟨s0, s1, s2, s3, s4⟩ := hS; have hs := Kd.C_string (c := c0) Try.underlying26 Try.underlying5 Try.underlying9 s3.out; go_simp; first | done | with_reducible rfl); (· go_simp; first | done | with_reducible rfl)) | (refine seq_off (a' := ?_) rfl ?_ ?_ ?_; rotate_left 1; (· rfl); (· go_simp; first | done | with_reducible rfl))
  first | (refine seq_val (v := ?_) (a' := ?_) rfl ?_ ?_ ?_ ?_; rotate_left 2; (· rfl); (· intro w0 hS; go_simp; first | done | with_reducible rfl); (· go_simp; first | done | with_reducible rfl)) | (refine seq_off (a' := ?_) rfl ?_ ?_ ?_; rotate_left 1; (· rfl); (· go_simp; first | done | with_reducible rfl))
  first | (refine seq_val (v := ?_) (a' := ?_) rfl ?_ ?_ ?_ ?_; rotate_left 2; (· rfl); (· intro w0 hS; go_simp; first | done | with_reducible rfl); (· go_simp; first | done | with_reducible rfl)) | (refine seq_off (a' := ?_) rfl ?_ ?_ ?_; rotate_left 1; (· rfl); (· go_simp; first | done | with_reducible rfl))
  refine seq_nil ?_
  go_wp2_with (fail)
  obtain ⟨t0, t1, t2, t3, t4⟩ := T
  go_quiet (fail)
  go_wp2_with (fail)
  go_ret
  exact ⟨rfl, pw_below_drewN t4.out _⟩
set_option maxHeartbeats 8000000 in
set_option maxRecDepth 100000 in
theorem decodes_some (A0 : Option Addr) (c0 : Nat) (l0 l1 : List Int) (w : World) (hl1 : l1 = l0.take (min l0.length 100)) (hr : Kd.C (Kd.int .u8) w A0 l0.length l0) (hc : l0.length ≤ c0) (hB : Bytes l0) (m : Msg) (r : List Int) (hd : dec l1 = some (m, r)) :
  Calls Try.prog 4 #[.slice A0 l0.length c0] w fun e w' => e = .returned (.bool true) ∧ Below w.heap.size w w' := by
 have hlt : l1.length = min l0.length 100 := by rw [hl1, List.length_take]; omega
 have hif : (if (100 : Int) < (l0.length : Int) then (100 : Int) else (l0.length : Int)) = (l1.length : Int) := by split <;> omega
 have q0 := eq_true (show (l1.length : Int) ≤ (c0 : Int) by omega)
 have HC1 : Aside0 (Kd.C (Kd.int .u8) w A0 l1.length l1) := ⟨by rw [hl1]; exact Kd.C_take hr (by omega)⟩
 have HN := Aside0.mk (show l1.length ≤ 100 ∧ l1.length ≤ c0 by omega)
 have HB1 : Aside0 (Bytes l1) := ⟨by rw [hl1]; exact hB.take _⟩
 have HD := Aside0.mk hd
 clear hr hlt hl1 hB hd hc
 go_enter Try.func4, Try.ntmps4
 go_wp2_with (first | ((with_reducible refine gate_dst (N := 14) rfl ?_); refine Kd.R_lit (Kd.int .u8) _ 5 ?hg (N := 14) ?hd (xs := ([] : List Int)) (inner := []) (ok := fun _ => True) (okp := fun _ => True) ?hr ?hp (fun _ hk => hk) trivial (Below.refl _ _) (Nat.le_refl _) (by simp) ?_; (case hd => rfl); (case hg => rfl); (case hr => first | (go_simp; done) | (go_simp; rfl)); (case hp => exact (Reps.none _ _)); intro v1 w1 ho hb hg_ hnew_; clear hg_ hnew_; have HO1 := Aside0.mk ho; have HW1 := Aside0.mk hb; clear hb ho) | ((with_reducible refine gate_builtin (b := .append) (xs := #[.tmp 14, .tmp 15]) rfl ?_); at_builtin; refine Kd.R_append_rows (Kd.int .u8) (w0 := w) w.heap.size rfl (.tmp 14) (.tmp 15) 26 5 (.int .u8 0) 1 rfl Try.underlying26 info5' rfl (by decide) (by omega) v1 [] l1 _ _ _ (fun _ => True) (fun _ => False) rfl rfl ?aO ?aR (fun _ _ h => h) (fun _ h => h.elim) ?aF ?aB ?aS ?aL ?_; (case aR => exact Kd.C_below HC1.out HW1.out); (case aB => exact HW1.out); (case aF => exact (fun _ _ => trivial)); (case aO => exact HO1.out); (case aS => exact HW1.out.size); (case aL => have := HN.out; simp; omega); intro v2 w2 ho hb hg hat; have HO2 := Aside0.mk ho; have HW2 := Aside0.mk hb; clear HO1 HW1 ho hb hg hat))
 obtain ⟨A2, c2, hv2, hc2, hC2⟩ := Kd.R_reads HO2.out
 rw [List.nil_append] at hv2 hc2 hC2
 subst hv2
 have HC2 := Aside0.mk hC2
 clear hC2 HO2
 refine (decode_ A2 c2 l1 _ HC2.out hc2 HB1.out (by have := HN.out; omega)).mono ?_
 rintro e w3 ⟨hd, hb3⟩
 have HC3 := Aside0.mk (Kd.C_below HC2.out hb3)
 have HW3 := Aside0.mk (below_step HW2.out hb3)
 obtain ⟨A3, c3, he, hc3, hB3, hF3⟩ := hd.yes m r HD.out
 subst he
 have HR3 := Aside0.mk (Kd.F_now hF3)
 clear hF3 hB3
 clear hd hb3 HC2 HW2
 unfold Msg.v
 go_wp2_with (fail)
 refine (rdecode_ A0 c0 l1 _ (Kd.C_below HC1.out (HW3.out.alloc (below_size HW3.out) _)) HN.out.2 HB1.out).mono ?_
 rintro e w4 ⟨hd, hb4⟩
 have he := hd.yes m r HD.out
 subst he
 have hlen := dec_len l1 m r HD.out
 have hed := enc_dec l1 m r HB1.out HD.out
 have hll := congrArg List.length hed.2
 rw [List.length_append] at hll
 obtain ⟨n, hn⟩ : ∃ n : Nat, n = (enc m).length := ⟨_, rfl⟩
 have hni : (l1.length : Int) - (r.length : Int) = (n : Int) := by omega
 rw [hni]
 have HNN := Aside0.mk (show n = (enc m).length ∧ l1.length = n + r.length ∧ r.length + 1 ≤ l1.length from ⟨hn, by omega, hlen⟩)
 have HED := Aside0.mk hed
 have HR4 := Aside0.mk (Kd.C_alloc (Kd.C_below (Kd.C_alloc HR3.out (.cells #[.int .i64 m.k, .int .i64 m.a, .int .i64 m.s, .bool m.b, .int .i64 m.p, .int .i64 m.q, .int .i64 m.n, .int .i64 m.t, .int .i64 m.i, .int .i64 m.y, .int .i64 m.d, .int .i64 m.m] 30)) hb4) (.cells #[.int .i64 m.k, .int .i64 m.a, .int .i64 m.s, .bool m.b, .int .i64 m.p, .int .i64 m.q, .int .i64 m.n, .int .i64 m.t, .int .i64 m.i, .int .i64 m.y, .int .i64 m.d, .int .i64 m.m] 25))
 have hn0 : decide ((0 : Int) < (n : Int)) = true := decide_eq_true (by omega)
 have hn1 : ((n : Int) == 0) = false := by simp; omega
 have hn2 : decide (0 < n) = true := decide_eq_true (by omega)
 have hn3 : (n == 0) = false := by simp; omega
 clear hn hlen hni HR3 hed hll
 have B4 := Aside0.mk (blk_alloc (blk_below (new_at w3 (.cells #[.int .i64 m.k, .int .i64 m.a, .int .i64 m.s, .bool m.b, .int .i64 m.p, .int .i64 m.q, .int .i64 m.n, .int .i64 m.t, .int .i64 m.i, .int .i64 m.y, .int .i64 m.d, .int .i64 m.m] 30) _ rfl) hb4) (.cells #[.int .i64 m.k, .int .i64 m.a, .int .i64 m.s, .bool m.b, .int .i64 m.p, .int .i64 m.q, .int .i64 m.n, .int .i64 m.t, .int .i64 m.i, .int .i64 m.y, .int .i64 m.d, .int .i64 m.m] 25))
 have B7 := Aside0.mk (new_at w4 (.cells #[.int .i64 m.k, .int .i64 m.a, .int .i64 m.s, .bool m.b, .int .i64 m.p, .int .i64 m.q, .int .i64 m.n, .int .i64 m.t, .int .i64 m.i, .int .i64 m.y, .int .i64 m.d, .int .i64 m.m] 25) _ rfl)
 have HC4 := Aside0.mk (Kd.C_alloc (Kd.C_below (Kd.C_alloc HC3.out (.cells #[.int .i64 m.k, .int .i64 m.a, .int .i64 m.s, .bool m.b, .int .i64 m.p, .int .i64 m.q, .int .i64 m.n, .int .i64 m.t, .int .i64 m.i, .int .i64 m.y, .int .i64 m.d, .int .i64 m.m] 30)) hb4) (.cells #[.int .i64 m.k, .int .i64 m.a, .int .i64 m.s, .bool m.b, .int .i64 m.p, .int .i64 m.q, .int .i64 m.n, .int .i64 m.t, .int .i64 m.i, .int .i64 m.y, .int .i64 m.d, .int .i64 m.m] 25))
 have HB4 := Aside0.mk (HW3.out.alloc (below_size HW3.out) (.cells #[.int .i64 m.k, .int .i64 m.a, .int .i64 m.s, .bool m.b, .int .i64 m.p, .int .i64 m.q, .int .i64 m.n, .int .i64 m.t, .int .i64 m.i, .int .i64 m.y, .int .i64 m.d, .int .i64 m.m] 30) |>.trans (hb4.mono (below_size (HW3.out.alloc (below_size HW3.out) _))))
 have HW4 := Aside0.mk (HB4.out.alloc (below_size HB4.out) (.cells #[.int .i64 m.k, .int .i64 m.a, .int .i64 m.s, .bool m.b, .int .i64 m.p, .int .i64 m.q, .int .i64 m.n, .int .i64 m.t, .int .i64 m.i, .int .i64 m.y, .int .i64 m.d, .int .i64 m.m] 25))
 have HX4 := Aside0.mk (Kd.C_below HC1.out HW4.out)
 clear hd hb4 HC3 HW3 HB4 HC1
 unfold Msg.v
 go_wp2_with (fail)
 have T : (fun w' => Aside0 (w'.heap[w3.heap.size]? = some (.cells #[.int .i64 m.k, .int .i64 m.a, .int .i64 m.s, .bool m.b, .int .i64 m.p, .int .i64 m.q, .int .i64 m.n, .int .i64 m.t, .int .i64 m.i, .int .i64 m.y, .int .i64 m.d, .int .i64 m.m] 30)) ∧ Aside0 (w'.heap[w4.heap.size]? = some (.cells #[.int .i64 m.k, .int .i64 m.a, .int .i64 m.s, .bool m.b, .int .i64 m.p, .int .i64 m.q, .int .i64 m.n, .int .i64 m.t, .int .i64 m.i, .int .i64 m.y, .int .i64 m.d, .int .i64 m.m] 25)) ∧ Aside0 (Kd.C (Kd.int .u8) w' A2 l1.length l1) ∧ Aside0 (Kd.C (Kd.int .u8) w' A0 l1.length l1) ∧ Aside0 (Kd.C (Kd.int .u8) w' A3 r.length r) ∧ Aside0 (Below w.heap.size w w')) (World.drew (w4.alloc (.cells #[.int .i64 m.k, .int .i64 m.a, .int .i64 m.s, .bool m.b, .int .i64 m.p, .int .i64 m.q, .int .i64 m.n, .int .i64 m.t, .int .i64 m.i, .int .i64 m.y, .int .i64 m.d, .int .i64 m.m] 25))) := ⟨⟨blk_drew B4.out⟩, ⟨blk_drew B7.out⟩, ⟨HC4.out⟩, ⟨HX4.out⟩, ⟨HR4.out⟩, ⟨HW4.out.drew⟩⟩
 refine wp_region_seq (fun w' => Aside0 (w'.heap[w3.heap.size]? = some (.cells #[.int .i64 m.k, .int .i64 m.a, .int .i64 m.s, .bool m.b, .int .i64 m.p, .int .i64 m.q, .int .i64 m.n, .int .i64 m.t, .int .i64 m.i, .int .i64 m.y, .int .i64 m.d, .int .i64 m.m] 30)) ∧ Aside0 (w'.heap[w4.heap.size]? = some (.cells #[.int .i64 m.k, .int .i64 m.a, .int .i64 m.s, .bool m.b, .int .i64 m.p, .int .i64 m.q, .int .i64 m.n, .int .i64 m.t, .int .i64 m.i, .int .i64 m.y, .int .i64 m.d, .int .i64 m.m] 25)) ∧ Aside0 (Kd.C (Kd.int .u8) w' A2 l1.length l1) ∧ Aside0 (Kd.C (Kd.int .u8) w' A0 l1.length l1) ∧ Aside0 (Kd.C (Kd.int .u8) w' A3 r.length r) ∧ Aside0 (Below w.heap.size w w')) [0, 4] [0, 1, 2, 3, 5, 4, 6, 7, 8, 9, 10, 11, 12, 13, 14, 15, 16, 17, 18, 19, 20, 21, 22, 23, 24, 25, 26, 27, 28, 29, 30, 31, 32, 33, 34] (by kernel_rfl) (by kernel_rfl) (by kernel_rfl) (by kernel_rfl) (by kernel_rfl) (fun _ _ d _ _ h => by cases d <;> exact h) ?h0 ?hseq
 case h0 => exact T
 case hseq =>
  refine seq_op rfl (by kernel_rfl) (by rfl) (fun K hK => ?_)
  go_simp
  go_at_call 18
  refine (told _).mono ?_
  rintro e u1 ⟨rfl, hb⟩
  obtain ⟨t0, t1, t2, t3, t4, t5⟩ := T
  refine hK _ _ ⟨⟨blk_below t0.out hb⟩, ⟨blk_below t1.out hb⟩, ⟨Kd.C_below t2.out hb⟩, ⟨Kd.C_below t3.out hb⟩, ⟨Kd.C_below t4.out hb⟩, ⟨below_step t5.out hb⟩⟩ ?_
  have T : (fun w' => Aside0 (w'.heap[w3.heap.size]? = some (.cells #[.int .i64 m.k, .int .i64 m.a, .int .i64 m.s, .bool m.b, .int .i64 m.p, .int .i64 m.q, .int .i64 m.n, .int .i64 m.t, .int .i64 m.i, .int .i64 m.y, .int .i64 m.d, .int .i64 m.m] 30)) ∧ Aside0 (w'.heap[w4.heap.size]? = some (.cells #[.int .i64 m.k, .int .i64 m.a, .int .i64 m.s, .bool m.b, .int .i64 m.p, .int .i64 m.q, .int .i64 m.n, .int .i64 m.t, .int .i64 m.i, .int .i64 m.y, .int .i64 m.d, .int .i64 m.m] 25)) ∧ Aside0 (Kd.C (Kd.int .u8) w' A2 l1.length l1) ∧ Aside0 (Kd.C (Kd.int .u8) w' A0 l1.length l1) ∧ Aside0 (Kd.C (Kd.int .u8) w' A3 r.length r) ∧ Aside0 (Below w.heap.size w w')) u1 := ⟨⟨blk_below t0.out hb⟩, ⟨blk_below t1.out hb⟩, ⟨Kd.C_below t2.out hb⟩, ⟨Kd.C_below t3.out hb⟩, ⟨Kd.C_below t4.out hb⟩, ⟨below_step t5.out hb⟩⟩
  clear hK K hb t0 t1 t2 t3 t4 t5 B4 B7 HC4 HX4 HR4 HW4
  first | (refine seq_val (v := ?_) (a' := ?_) rfl ?_ ?_ ?_ ?_; rotate_left 2; (· rfl); (· intro w0 hS; go_simp; first | done | with_reducible rfl); (· go_simp; first | done | with_reducible rfl)) | (refine seq_off (a' := ?_) rfl ?_ ?_ ?_; rotate_left 1; (· rfl); (· go_simp; first | done | with_reducible rfl))
  first | (refine seq_val (v := ?_) (a' := ?_) rfl ?_ ?_ ?_ ?_; rotate_left 2; (· rfl); (· intro w0 hS; go_simp; first | done | with_reducible rfl); (· go_simp; first | done | with_reducible rfl)) | (refine seq_off (a' := ?_) rfl ?_ ?_ ?_; rotate_left 1; (· rfl); (· go_simp; first | done | with_reducible rfl))
  first | (refine seq_val (v := ?_) (a' := ?_) rfl ?_ ?_ ?_ ?_; rotate_left 2; (· rfl); (· intro w0 hS; obtain ⟨s0, s1, s2, s3, s4, s5⟩ := hS; have x0 := (blk_cell s0.out 0).trans rfl; have x1 := (blk_cell s0.out 1).trans rfl; have x2 := (blk_cell s0.out 2).trans rfl; have x3 := (blk_cell s0.out 3).trans rfl; have x4 := (blk_cell s0.out 4).trans rfl; have x5 := (blk_cell s0.out 5).trans rfl; have x6 := (blk_cell s0.out 6).trans rfl; have x7 := (blk_cell s0.out 7).trans rfl; have x8 := (blk_cell s0.out 8).trans rfl; have x9 := (blk_cell s0.out 9).trans rfl; have x10 := (blk_cell s0.out 10).trans rfl; have x11 := (blk_cell s0.out 11).trans rfl; go_simp; first | done | with_reducible rfl); (· go_simp; first | done | with_reducible rfl)) | (refine seq_off (a' := ?_) rfl ?_ ?_ ?_; rotate_left 1; (· rfl); (· go_simp; first | done | with_reducible rfl))
  first | (refine seq_val (v := ?_) (a' := ?_) rfl ?_ ?_ ?_ ?_; rotate_left 2; (· rfl); (· intro w0 hS; obtain ⟨s0, s1, s2, s3, s4, s5⟩ := hS; have x0 := (blk_cell s1.out 0).trans rfl; have x1 := (blk_cell s1.out 1).trans rfl; have x2 := (blk_cell s1.out 2).trans rfl; have x3 := (blk_cell s1.out 3).trans rfl; have x4 := (blk_cell s1.out 4).trans rfl; have x5 := (blk_cell s1.out 5).trans rfl; have x6 := (blk_cell s1.out 6).trans rfl; have x7 := (blk_cell s1.out 7).trans rfl; have x8 := (blk_cell s1.out 8).trans rfl; have x9 := (blk_cell s1.out 9).trans rfl; have x10 := (blk_cell s1.out 10).trans rfl; have x11 := (blk_cell s1.out 11).trans rfl; go_simp; first | done | with_reducible rfl); (· go_simp; first | done | with_reducible rfl)) | (refine seq_off (a' := ?_) rfl ?_ ?_ ?_; rotate_left 1; (· rfl); (· go_simp; first | done | with_reducible rfl))
  refine seq_op rfl (by kernel_rfl) (by rfl) (fun K hK => ?_)
  go_simp
  go_at_call 23
  refine (from_ _ _ _ _ _ _ _ _ _ _ _ _ _).mono ?_
  rintro e u2 ⟨rfl, hb⟩
  obtain ⟨t0, t1, t2, t3, t4, t5⟩ := T
  have T : (fun w' => Aside0 (w'.heap[w3.heap.size]? = some (.cells #[.int .i64 m.k, .int .i64 m.a, .int .i64 m.s, .bool m.b, .int .i64 m.p, .int .i64 m.q, .int .i64 m.n, .int .i64 m.t, .int .i64 m.i, .int .i64 m.y, .int .i64 m.d, .int .i64 m.m] 30)) ∧ Aside0 (w'.heap[w4.heap.size]? = some (.cells #[.int .i64 m.k, .int .i64 m.a, .int .i64 m.s, .bool m.b, .int .i64 m.p, .int .i64 m.q, .int .i64 m.n, .int .i64 m.t, .int .i64 m.i, .int .i64 m.y, .int .i64 m.d, .int .i64 m.m] 25)) ∧ Aside0 (Kd.C (Kd.int .u8) w' A2 l1.length l1) ∧ Aside0 (Kd.C (Kd.int .u8) w' A0 l1.length l1) ∧ Aside0 (Kd.C (Kd.int .u8) w' A3 r.length r) ∧ Aside0 (Below w.heap.size w w')) u2 := ⟨⟨blk_below t0.out hb⟩, ⟨blk_below t1.out hb⟩, ⟨Kd.C_below t2.out hb⟩, ⟨Kd.C_below t3.out hb⟩, ⟨Kd.C_below t4.out hb⟩, ⟨below_step t5.out hb⟩⟩
  refine hK _ _ T ?_
  clear hK K hb t0 t1 t2 t3 t4 t5
  first | (refine seq_val (v := ?_) (a' := ?_) rfl ?_ ?_ ?_ ?_; rotate_left 2; (· rfl); (· intro w0 hS; go_simp; first | done | with_reducible rfl); (· go_simp; first | done | with_reducible rfl)) | (refine seq_off (a' := ?_) rfl ?_ ?_ ?_; rotate_left 1; (· rfl); (· go_simp; first | done | with_reducible rfl))
  first | (refine seq_val (v := ?_) (a' := ?_) rfl ?_ ?_ ?_ ?_; rotate_left 2; (· rfl); (· intro w0 hS; go_simp; first | done | with_reducible rfl); (· go_simp; first | done | with_reducible rfl)) | (refine seq_off (a' := ?_) rfl ?_ ?_ ?_; rotate_left 1; (· rfl); (· go_simp; first | done | with_reducible rfl))
  first | (refine seq_val (v := ?_) (a' := ?_) rfl ?_ ?_ ?_ ?_; rotate_left 2; (· rfl); (· intro w0 hS; go_simp; first | done | with_reducible rfl); (· go_simp; first | done | with_reducible rfl)) | (refine seq_off (a' := ?_) rfl ?_ ?_ ?_; rotate_left 1; (· rfl); (· go_simp; first | done | with_reducible rfl))
  first | (refine seq_val (v := ?_) (a' := ?_) rfl ?_ ?_ ?_ ?_; rotate_left 2; (· rfl); (· intro w0 hS; go_simp; first | done | with_reducible rfl); (· go_simp; first | done | with_reducible rfl)) | (refine seq_off (a' := ?_) rfl ?_ ?_ ?_; rotate_left 1; (· rfl); (· go_simp; first | done | with_reducible rfl))
  first | (refine seq_val (v := ?_) (a' := ?_) rfl ?_ ?_ ?_ ?_; rotate_left 2; (· rfl); (· intro w0 hS; go_simp; first | done | with_reducible rfl); (· go_simp; first | done | with_reducible rfl)) | (refine seq_off (a' := ?_) rfl ?_ ?_ ?_; rotate_left 1; (· rfl); (· go_simp; first | done | with_reducible rfl))
  first | (refine seq_val (v := ?_) (a' := ?_) rfl ?_ ?_ ?_ ?_; rotate_left 2; (· rfl); (· intro w0 hS; go_simp; first | done | with_reducible rfl); (· go_simp; first | done | with_reducible rfl)) | (refine seq_off (a' := ?_) rfl ?_ ?_ ?_; rotate_left 1; (· rfl); (· go_simp; first | done | with_reducible rfl))
  first | (refine seq_val (v := ?_) (a' := ?_) rfl ?_ ?_ ?_ ?_; rotate_left 2; (· rfl); (· intro w0 hS; go_simp; first | done | with_reducible rfl); (· go_simp; first | done | with_reducible rfl)) | (refine seq_off (a' := ?_) rfl ?_ ?_ ?_; rotate_left 1; (· rfl); (· go_simp; first | done | with_reducible rfl))
  first | (refine seq_val (v := ?_) (a' := ?_) rfl ?_ ?_ ?_ ?_; rotate_left 2; (· rfl); (· intro w0 hS; go_simp; first | done | with_reducible rfl); (· go_simp; first | done | with_reducible rfl)) | (refine seq_off (a' := ?_) rfl ?_ ?_ ?_; rotate_left 1; (· rfl); (· go_simp; first | done | with_reducible rfl))
  first | (refine seq_val (v := ?_) (a' := ?_) rfl ?_ ?_ ?_ ?_; rotate_left 2; (· rfl); (· intro w0 hS; go_simp; first | done | with_reducible rfl); (· go_simp; first | done | with_reducible rfl)) | (refine seq_off (a' := ?_) rfl ?_ ?_ ?_; rotate_left 1; (· rfl); (· go_simp; first | done | with_reducible rfl))
  first | (refine seq_val (v := ?_) (a' := ?_) rfl ?_ ?_ ?_ ?_; rotate_left 2; (· rfl); (· intro w0 hS; go_simp; first | done | with_reducible rfl); (· go_simp; first | done | with_reducible rfl)) | (refine seq_off (a' := ?_) rfl ?_ ?_ ?_; rotate_left 1; (· rfl); (· go_simp; first | done | with_reducible rfl))
  first | (refine seq_val (v := ?_) (a' := ?_) rfl ?_ ?_ ?_ ?_; rotate_left 2; (· rfl); (· intro w0 hS; go_simp; first | done | with_reducible rfl); (· go_simp; first | done | with_reducible rfl)) | (refine seq_off (a' := ?_) rfl ?_ ?_ ?_; rotate_left 1; (· rfl); (· go_simp; first | done | with_reducible rfl))
  first | (refine seq_val (v := ?_) (a' := ?_) rfl ?_ ?_ ?_ ?_; rotate_left 2; (· rfl); (· intro w0 hS; go_simp; first | done | with_reducible rfl); (· go_simp; first | done | with_reducible rfl)) | (refine seq_off (a' := ?_) rfl ?_ ?_ ?_; rotate_left 1; (· rfl); (· go_simp; first | done | with_reducible rfl))
  first | (refine seq_val (v := ?_) (a' := ?_) rfl ?_ ?_ ?_ ?_; rotate_left 2; (· rfl); (· intro w0 hS; go_simp; first | done | with_reducible rfl); (· go_simp; first | done | with_reducible rfl)) | (refine seq_off (a' := ?_) rfl ?_ ?_ ?_; rotate_left 1; (· rfl); (· go_simp; first | done | with_reducible rfl))
  first | (refine seq_val (v := ?_) (a' := ?_) rfl ?_ ?_ ?_ ?_; rotate_left 2; (· rfl); (· intro w0 hS; go_simp; first | done | with_reducible rfl); (· go_simp; first | done | with_reducible rfl)) | (refine seq_off (a' := ?_) rfl ?_ ?_ ?_; rotate_left 1; (· rfl); (· go_simp; first | done | with_reducible rfl))
  first | (refine seq_val (v := ?_) (a' := ?_) rfl ?_ ?_ ?_ ?_; rotate_left 2; (· rfl); (· intro w0 hS; go_simp; first | done | with_reducible rfl); (· go_simp; first | done | with_reducible rfl)) | (refine seq_off (a' := ?_) rfl ?_ ?_ ?_; rotate_left 1; (· rfl); (· go_simp; first | done | with_reducible rfl))
  first | (refine seq_val (v := ?_) (a' := ?_) rfl ?_ ?_ ?_ ?_; rotate_left 2; (· rfl); (· intro w0 hS; go_simp; first | done | with_reducible rfl); (· go_simp; first | done | with_reducible rfl)) | (refine seq_off (a' := ?_) rfl ?_ ?_ ?_; rotate_left 1; (· rfl); (· go_simp; first | done | with_reducible rfl))
  first | (refine seq_val (v := ?_) (a' := ?_) rfl ?_ ?_ ?_ ?_; rotate_left 2; (· rfl); (· intro w0 hS; go_simp; first | done | with_reducible rfl); (· go_simp; first | done | with_reducible rfl)) | (refine seq_off (a' := ?_) rfl ?_ ?_ ?_; rotate_left 1; (· rfl); (· go_simp; first | done | with_reducible rfl))
  first | (refine seq_val (v := ?_) (a' := ?_) rfl ?_ ?_ ?_ ?_; rotate_left 2; (· rfl); (· intro w0 hS; go_simp; first | done | with_reducible rfl); (· go_simp; first | done | with_reducible rfl)) | (refine seq_off (a' := ?_) rfl ?_ ?_ ?_; rotate_left 1; (· rfl); (· go_simp; first | done | with_reducible rfl))
  first | (refine seq_val (v := ?_) (a' := ?_) rfl ?_ ?_ ?_ ?_; rotate_left 2; (· rfl); (· intro w0 hS; go_simp; first | done | with_reducible rfl); (· go_simp; first | done | with_reducible rfl)) | (refine seq_off (a' := ?_) rfl ?_ ?_ ?_; rotate_left 1; (· rfl); (· go_simp; first | done | with_reducible rfl))
  first | (refine seq_val (v := ?_) (a' := ?_) rfl ?_ ?_ ?_ ?_; rotate_left 2; (· rfl); (· intro w0 hS; go_simp; first | done | with_reducible rfl); (· go_simp; first | done | with_reducible rfl)) | (refine seq_off (a' := ?_) rfl ?_ ?_ ?_; rotate_left 1; (· rfl); (· go_simp; first | done | with_reducible rfl))
  first | (refine seq_val (v := ?_) (a' := ?_) rfl ?_ ?_ ?_ ?_; rotate_left 2; (· rfl); (· intro w0 hS; go_simp; first | done | with_reducible rfl); (· go_simp; first | done | with_reducible rfl)) | (refine seq_off (a' := ?_) rfl ?_ ?_ ?_; rotate_left 1; (· rfl); (· go_simp; first | done | with_reducible rfl))
  first | (refine seq_val (v := ?_) (a' := ?_) rfl ?_ ?_ ?_ ?_; rotate_left 2; (· rfl); (· intro w0 hS; go_simp; first | done | with_reducible rfl); (· go_simp; first | done | with_reducible rfl)) | (refine seq_off (a' := ?_) rfl ?_ ?_ ?_; rotate_left 1; (· rfl); (· go_simp; first | done | with_reducible rfl))
  first | (refine seq_val (v := ?_) (a' := ?_) rfl ?_ ?_ ?_ ?_; rotate_left 2; (· rfl); (· intro w0 hS; go_simp; first | done | with_reducible rfl); (· go_simp; first | done | with_reducible rfl)) | (refine seq_off (a' := ?_) rfl ?_ ?_ ?_; rotate_left 1; (· rfl); (· go_simp; first | done | with_reducible rfl))
  first | (refine seq_val (v := ?_) (a' := ?_) rfl ?_ ?_ ?_ ?_; rotate_left 2; (· rfl); (· intro w0 hS; go_simp; first | done | with_reducible rfl); (· go_simp; first | done | with_reducible rfl)) | (refine seq_off (a' := ?_) rfl ?_ ?_ ?_; rotate_left 1; (· rfl); (· go_simp; first | done | with_reducible rfl))
  first | (refine seq_val (v := ?_) (a' := ?_) rfl ?_ ?_ ?_ ?_; rotate_left 2; (· rfl); (· intro w0 hS; obtain ⟨s0, s1, s2, s3, s4, s5⟩ := hS; have hs := Kd.C_string (c := c2) Try.underlying26 Try.underlying5 Try.underlying9 s2.out; go_simp; first | done | with_reducible rfl); (· go_simp; first | done | with_reducible rfl)) | (refine seq_off (a' := ?_) rfl ?_ ?_ ?_; rotate_left 1; (· rfl); (· go_simp; first | done | with_reducible rfl))
  first | (refine seq_val (v := ?_) (a' := ?_) rfl ?_ ?_ ?_ ?_; rotate_left 2; (· rfl); (· intro w0 hS; go_simp; first | done | with_reducible rfl); (· go_simp; first | done | with_reducible rfl)) | (refine seq_off (a' := ?_) rfl ?_ ?_ ?_; rotate_left 1; (· rfl); (· go_simp; first | done | with_reducible rfl))
  first | (refine seq_val (v := ?_) (a' := ?_) rfl ?_ ?_ ?_ ?_; rotate_left 2; (· rfl); (· intro w0 hS; obtain ⟨s0, s1, s2, s3, s4, s5⟩ := hS; have hs := Kd.C_string (c := c0) Try.underlying26 Try.underlying5 Try.underlying9 s3.out; go_simp; first | done | with_reducible rfl); (· go_simp; first | done | with_reducible rfl)) | (refine seq_off (a' := ?_) rfl ?_ ?_ ?_; rotate_left 1; (· rfl); (· go_simp; first | done | with_reducible rfl))
  first | (refine seq_val (v := ?_) (a' := ?_) rfl ?_ ?_ ?_ ?_; rotate_left 2; (· rfl); (· intro w0 hS; go_simp; first | done | with_reducible rfl); (· go_simp; first | done | with_reducible rfl)) | (refine seq_off (a' := ?_) rfl ?_ ?_ ?_; rotate_left 1; (· rfl); (· go_simp; first | done | with_reducible rfl))
  first | (refine seq_val (v := ?_) (a' := ?_) rfl ?_ ?_ ?_ ?_; rotate_left 2; (· rfl); (· intro w0 hS; go_simp; first | done | with_reducible rfl); (· go_simp; first | done | with_reducible rfl)) | (refine seq_off (a' := ?_) rfl ?_ ?_ ?_; rotate_left 1; (· rfl); (· go_simp; first | done | with_reducible rfl))
  refine seq_nil ?_
  go_wp2_with (fail)
  obtain ⟨t0, t1, t2, t3, t4, t5⟩ := T
  have hN := HNN.out
  have hE := HED.out
  have hM := HN.out
  have htk : l1.take n = enc m := by rw [hE.2, hN.1]; exact List.take_left' rfl
  have hdp : l1.drop n = r := by rw [hE.2, hN.1]; exact List.drop_left' rfl
  obtain ⟨AD, hAD⟩ : ∃ AD, AD = (if c0 = n then A0 else A0.map (·.add (n * 1))) := ⟨_, rfl⟩
  have E0 : Aside0 (Kd.C (Kd.int .u8) u2 A0 n (enc m)) := ⟨by have h := Kd.C_take (m := n) t3.out (by omega); rw [htk, ← hN.1] at h; exact h⟩
  have E1 : Aside0 (Kd.C (Kd.int .u8) u2 AD r.length r) := ⟨by have h := Kd.C_drop (m := n) t3.out (by omega) hM.2; rw [hdp] at h; rw [hAD]; exact h⟩
  obtain ⟨i5, hi5, _, hs5, _⟩ := info_parts info5'
  have hcf : ∀ W : World, (Instr.slice 26 (.slice A0 l1.length c0) (some (.int .i64 (n : Int))) none none).run Try.prog W = .ok (.slice AD r.length (c0 - n)) W := by
   intro W
   have h := cut_from 26 5 .i64 Try.underlying26 hi5 1 hs5 A0 l1.length c0 (n : Int) (by omega) (by omega) W
   rw [Int.toNat_natCast, ← hAD, show l1.length - n = r.length by omega] at h
   exact h
  have hct : ∀ W : World, (Instr.slice 26 (.slice A0 l1.length c0) none (some (.int .i64 (n : Int))) none).run Try.prog W = .ok (.slice A0 n c0) W := by
   intro W
   have h := cut_to 26 5 .i64 Try.underlying26 hi5 A0 l1.length c0 (n : Int) (by omega) (by omega) hM.2 W
   rw [Int.toNat_natCast] at h
   exact h
  clear hi5 hs5 hAD htk hdp hM hE hN t1 t2 t3
  have T2 : (fun w' => Aside0 (w'.heap[w3.heap.size]? = some (.cells #[.int .i64 m.k, .int .i64 m.a, .int .i64 m.s, .bool m.b, .int .i64 m.p, .int .i64 m.q, .int .i64 m.n, .int .i64 m.t, .int .i64 m.i, .int .i64 m.y, .int .i64 m.d, .int .i64 m.m] 30)) ∧ Aside0 (Kd.C (Kd.int .u8) w' A3 r.length r) ∧ Aside0 (Kd.C (Kd.int .u8) w' AD r.length r) ∧ Aside0 (Kd.C (Kd.int .u8) w' A0 n (enc m)) ∧ Aside0 (Below w.heap.size w w')) (World.drew u2) := ⟨⟨blk_drew t0.out⟩, ⟨t4.out⟩, ⟨E1.out⟩, ⟨E0.out⟩, ⟨t5.out.drew⟩⟩
  have HRT := Aside0.mk HED.out.1.1
  clear E0 E1 t0 t4 t5
  refine wp_region_seq (fun w' => Aside0 (w'.heap[w3.heap.size]? = some (.cells #[.int .i64 m.k, .int .i64 m.a, .int .i64 m.s, .bool m.b, .int .i64 m.p, .int .i64 m.q, .int .i64 m.n, .int .i64 m.t, .int .i64 m.i, .int .i64 m.y, .int .i64 m.d, .int .i64 m.m] 30)) ∧ Aside0 (Kd.C (Kd.int .u8) w' A3 r.length r) ∧ Aside0 (Kd.C (Kd.int .u8) w' AD r.length r) ∧ Aside0 (Kd.C (Kd.int .u8) w' A0 n (enc m)) ∧ Aside0 (Below w.heap.size w w')) [12, 13] [0, 1, 2, 3, 4, 5, 6, 7, 8, 9, 10, 11, 14, 15, 16, 17, 12, 13, 18, 19, 20, 21] (by kernel_rfl) (by kernel_rfl) (by kernel_rfl) (by kernel_rfl) (by kernel_rfl) (fun _ _ d _ _ h => by cases d <;> exact h) ?h0 ?hseq
  case h0 => exact T2
  case hseq =>
   first | (refine seq_val (v := ?_) (a' := ?_) rfl ?_ ?_ ?_ ?_; rotate_left 2; (· rfl); (· intro w0 hS; go_simp; first | done | with_reducible rfl); (· go_simp; first | done | with_reducible rfl)) | (refine seq_off (a' := ?_) rfl ?_ ?_ ?_; rotate_left 1; (· rfl); (· go_simp; first | done | with_reducible rfl))
   first | (refine seq_val (v := ?_) (a' := ?_) rfl ?_ ?_ ?_ ?_; rotate_left 2; (· rfl); (· intro w0 hS; go_simp; first | done | with_reducible rfl); (· go_simp; first | done | with_reducible rfl)) | (refine seq_off (a' := ?_) rfl ?_ ?_ ?_; rotate_left 1; (· rfl); (· go_simp; first | done | with_reducible rfl))
   first | (refine seq_val (v := ?_) (a' := ?_) rfl ?_ ?_ ?_ ?_; rotate_left 2; (· rfl); (· intro w0 hS; go_simp; first | done | with_reducible rfl); (· go_simp; first | done | with_reducible rfl)) | (refine seq_off (a' := ?_) rfl ?_ ?_ ?_; rotate_left 1; (· rfl); (· go_simp; first | done | with_reducible rfl))
   first | (refine seq_val (v := ?_) (a' := ?_) rfl ?_ ?_ ?_ ?_; rotate_left 2; (· rfl); (· intro w0 hS; go_simp; first | done | with_reducible rfl); (· go_simp; first | done | with_reducible rfl)) | (refine seq_off (a' := ?_) rfl ?_ ?_ ?_; rotate_left 1; (· rfl); (· go_simp; first | done | with_reducible rfl))
   first | (refine seq_val (v := ?_) (a' := ?_) rfl ?_ ?_ ?_ ?_; rotate_left 2; (· rfl); (· intro w0 hS; obtain ⟨s0, s1, s2, s3, s4⟩ := hS; have hs := Kd.C_string (c := c3) Try.underlying26 Try.underlying5 Try.underlying9 s1.out; go_simp; first | done | with_reducible rfl); (· go_simp; first | done | with_reducible rfl)) | (refine seq_off (a' := ?_) rfl ?_ ?_ ?_; rotate_left 1; (· rfl); (· go_simp; first | done | with_reducible rfl))
   first | (refine seq_val (v := ?_) (a' := ?_) rfl ?_ ?_ ?_ ?_; rotate_left 2; (· rfl); (· intro w0 hS; go_simp; first | done | with_reducible rfl); (· go_simp; first | done | with_reducible rfl)) | (refine seq_off (a' := ?_) rfl ?_ ?_ ?_; rotate_left 1; (· rfl); (· go_simp; first | done | with_reducible rfl))
   first | (refine seq_val (v := ?_) (a' := ?_) rfl ?_ ?_ ?_ ?_; rotate_left 2; (· rfl); (· intro w0 hS; go_simp; first | done | with_reducible rfl); (· go_simp; first | done | with_reducible rfl)) | (refine seq_off (a' := ?_) rfl ?_ ?_ ?_; rotate_left 1; (· rfl); (· go_simp; first | done | with_reducible rfl))
   first | (refine seq_val (v := ?_) (a' := ?_) rfl ?_ ?_ ?_ ?_; rotate_left 2; (· rfl); (· intro w0 hS; go_simp; first | done | with_reducible rfl); (· go_simp; first | done | with_reducible rfl)) | (refine seq_off (a' := ?_) rfl ?_ ?_ ?_; rotate_left 1; (· rfl); (· go_simp; first | done | with_reducible rfl))
   first | (refine seq_val (v := ?_) (a' := ?_) rfl ?_ ?_ ?_ ?_; rotate_left 2; (· rfl); (· intro w0 hS; obtain ⟨s0, s1, s2, s3, s4⟩ := hS; have hs := Kd.C_string (c := (c0 - n)) Try.underlying26 Try.underlying5 Try.underlying9 s2.out; go_simp; first | done | with_reducible rfl); (· go_simp; first | done | with_reducible rfl)) | (refine seq_off (a' := ?_) rfl ?_ ?_ ?_; rotate_left 1; (· rfl); (· go_simp; first | done | with_reducible rfl))
   first | (refine seq_val (v := ?_) (a' := ?_) rfl ?_ ?_ ?_ ?_; rotate_left 2; (· rfl); (· intro w0 hS; go_simp; first | done | with_reducible rfl); (· go_simp; first | done | with_reducible rfl)) | (refine seq_off (a' := ?_) rfl ?_ ?_ ?_; rotate_left 1; (· rfl); (· go_simp; first | done | with_reducible rfl))
   first | (refine seq_val (v := ?_) (a' := ?_) rfl ?_ ?_ ?_ ?_; rotate_left 2; (· rfl); (· intro w0 hS; go_simp; first | done | with_reducible rfl); (· go_simp; first | done | with_reducible rfl)) | (refine seq_off (a' := ?_) rfl ?_ ?_ ?_; rotate_left 1; (· rfl); (· go_simp; first | done | with_reducible rfl))
   first | (refine seq_val (v := ?_) (a' := ?_) rfl ?_ ?_ ?_ ?_; rotate_left 2; (· rfl); (· intro w0 hS; obtain ⟨s0, s1, s2, s3, s4⟩ := hS; have x0 := (blk_cell s0.out 0).trans rfl; have x1 := (blk_cell s0.out 1).trans rfl; have x2 := (blk_cell s0.out 2).trans rfl; have x3 := (blk_cell s0.out 3).trans rfl; have x4 := (blk_cell s0.out 4).trans rfl; have x5 := (blk_cell s0.out 5).trans rfl; have x6 := (blk_cell s0.out 6).trans rfl; have x7 := (blk_cell s0.out 7).trans rfl; have x8 := (blk_cell s0.out 8).trans rfl; have x9 := (blk_cell s0.out 9).trans rfl; have x10 := (blk_cell s0.out 10).trans rfl; have x11 := (blk_cell s0.out 11).trans rfl; go_simp; first | done | with_reducible rfl); (· go_simp; first | done | with_reducible rfl)) | (refine seq_off (a' := ?_) rfl ?_ ?_ ?_; rotate_left 1; (· rfl); (· go_simp; first | done | with_reducible rfl))
   first | (refine seq_val (v := ?_) (a' := ?_) rfl ?_ ?_ ?_ ?_; rotate_left 2; (· rfl); (· intro w0 hS; go_simp; first | done | with_reducible rfl); (· go_simp; first | done | with_reducible rfl)) | (refine seq_off (a' := ?_) rfl ?_ ?_ ?_; rotate_left 1; (· rfl); (· go_simp; first | done | with_reducible rfl))
   first | (refine seq_val (v := ?_) (a' := ?_) rfl ?_ ?_ ?_ ?_; rotate_left 2; (· rfl); (· intro w0 hS; go_simp; first | done | with_reducible rfl); (· go_simp; first | done | with_reducible rfl)) | (refine seq_off (a' := ?_) rfl ?_ ?_ ?_; rotate_left 1; (· rfl); (· go_simp; first | done | with_reducible rfl))
   first | (refine seq_val (v := ?_) (a' := ?_) rfl ?_ ?_ ?_ ?_; rotate_left 2; (· rfl); (· intro w0 hS; go_simp; first | done | with_reducible rfl); (· go_simp; first | done | with_reducible rfl)) | (refine seq_off (a' := ?_) rfl ?_ ?_ ?_; rotate_left 1; (· rfl); (· go_simp; first | done | with_reducible rfl))
   first | (refine seq_val (v := ?_) (a' := ?_) rfl ?_ ?_ ?_ ?_; rotate_left 2; (· rfl); (· intro w0 hS; obtain ⟨s0, s1, s2, s3, s4⟩ := hS; have hs := Kd.C_string (c := c0) Try.underlying26 Try.underlying5 Try.underlying9 s3.out; go_simp; first | done | with_reducible rfl); (· go_simp; first | done | with_reducible rfl)) | (refine seq_off (a' := ?_) rfl ?_ ?_ ?_; rotate_left 1; (· rfl); (· go_simp; first | done | with_reducible rfl))
   refine seq_op rfl (by kernel_rfl) (by rfl) (fun K hK => ?_)
   go_simp
   go_at_call 15
   refine (wire_Encode.calls 20 m.k m.a m.s m.b m.p m.q m.n m.t m.i m.y m.d m.m _ _ (encode_yes m HRT.out)).mono ?_
   rintro e u3 ⟨v, rfl, ho, hb⟩
   obtain ⟨A5, c5, rfl, hc5, hC5⟩ := Kd.R_reads ho
   have HC5 := Aside0.mk hC5
   obtain ⟨s0, s1, s2, s3, s4⟩ := T2
   have T3 : (fun w' => Aside0 (w'.heap[w3.heap.size]? = some (.cells #[.int .i64 m.k, .int .i64 m.a, .int .i64 m.s, .bool m.b, .int .i64 m.p, .int .i64 m.q, .int .i64 m.n, .int .i64 m.t, .int .i64 m.i, .int .i64 m.y, .int .i64 m.d, .int .i64 m.m] 30)) ∧ Aside0 (Kd.C (Kd.int .u8) w' A3 r.length r) ∧ Aside0 (Kd.C (Kd.int .u8) w' AD r.length r) ∧ Aside0 (Kd.C (Kd.int .u8) w' A0 n (enc m)) ∧ Aside0 (Below w.heap.size w w')) u3 := ⟨⟨blk_below s0.out hb⟩, ⟨Kd.C_below s1.out hb⟩, ⟨Kd.C_below s2.out hb⟩, ⟨Kd.C_below s3.out hb⟩, ⟨below_step s4.out hb⟩⟩
   refine hK _ _ T3 ?_
   clear hK K hb ho hC5 hc5 s0 s1 s2 s3 s4
   refine seq_op rfl (by kernel_rfl) (by rfl) (fun K hK => ?_)
   have hs := Kd.C_string (c := c5) Try.underlying26 Try.underlying5 Try.underlying9 HC5.out
   go_simp
   refine hK _ _ T3 ?_
   clear hK K
   first | (refine seq_val (v := ?_) (a' := ?_) rfl ?_ ?_ ?_ ?_; rotate_left 2; (· rfl); (· intro w0 hS; go_simp; first | done | with_reducible rfl); (· go_simp; first | done | with_reducible rfl)) | (refine seq_off (a' := ?_) rfl ?_ ?_ ?_; rotate_left 1; (· rfl); (· go_simp; first | done | with_reducible rfl))
   first | (refine seq_val (v := ?_) (a' := ?_) rfl ?_ ?_ ?_ ?_; rotate_left 2; (· rfl); (· intro w0 hS; go_simp; first | done | with_reducible rfl); (· go_simp; first | done | with_reducible rfl)) | (refine seq_off (a' := ?_) rfl ?_ ?_ ?_; rotate_left 1; (· rfl); (· go_simp; first | done | with_reducible rfl))
   first | (refine seq_val (v := ?_) (a' := ?_) rfl ?_ ?_ ?_ ?_; rotate_left 2; (· rfl); (· intro w0 hS; go_simp; first | done | with_reducible rfl); (· go_simp; first | done | with_reducible rfl)) | (refine seq_off (a' := ?_) rfl ?_ ?_ ?_; rotate_left 1; (· rfl); (· go_simp; first | done | with_reducible rfl))
   first | (refine seq_val (v := ?_) (a' := ?_) rfl ?_ ?_ ?_ ?_; rotate_left 2; (· rfl); (· intro w0 hS; go_simp; first | done | with_reducible rfl); (· go_simp; first | done | with_reducible rfl)) | (refine seq_off (a' := ?_) rfl ?_ ?_ ?_; rotate_left 1; (· rfl); (· go_simp; first | done | with_reducible rfl))
   refine seq_nil ?_
   obtain ⟨s0, s1, s2, s3, s4⟩ := T3
   clear hs
   go_wp2_with (fail)
   go_ret
   exact ⟨rfl, s4.out⟩
/-- The law. -/
theorem decodes (A0 : Option Addr) (c0 : Nat) (l0 : List Int) (w : World) (hr : Kd.C (Kd.int .u8) w A0 l0.length l0) (hc : l0.length ≤ c0) (hB : Bytes l0) :
  Calls Try.prog 4 #[.slice A0 l0.length c0] w fun e w' => e = .returned (.bool true) ∧ Below w.heap.size w w' := by
 cases hd : dec (l0.take (min l0.length 100)) with
 | none => exact decodes_none A0 c0 l0 _ w rfl hr hc hB hd
 | some p =>
  obtain ⟨m, r⟩ := p
  exact decodes_some A0 c0 l0 _ w rfl hr hc hB m r hd
end Go.Proofs.Ytgikjgekdeaneaa.Wire
