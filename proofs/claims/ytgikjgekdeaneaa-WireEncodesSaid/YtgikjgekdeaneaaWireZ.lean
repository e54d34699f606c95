/- The law WireEncodes walked, by hand. -/
import Derived.Test.YtgikjgekdeaneaaWireN
import Derived.Test.YtgikjgekdeaneaaWireF1
namespace Go.Proofs.Ytgikjgekdeaneaa.Wire
open Go.RowKit Go.Proofs.Ytgikjgekdeaneaa.Cert Go.Proofs.Ytgikjgekdeaneaa.Seq Go.Proofs.Ytgikjgekdeaneaa.QWire Go.Proofs.YtgikjgekdeaneaaW.PrintWords Go.Proofs.YtgikjgekdeaneaaW.PrintLast Go.Proofs.YtgikjgekdeaneaaW.PrintMore Go.Proofs.Ytgikjgekdeaneaa.Own
set_option linter.unusedVariables false
set_option linter.unusedSimpArgs false
attribute [local go_sem high] eqA25 eqA30
theorem dec_nil : dec [] = none := by kernel_rfl
set_option maxHeartbeats 8000000 in
set_option maxRecDepth 100000 in
theorem encodes_yes (m : Msg) (h : Right m) (hf : Fit m) (w : World) : Calls Try.prog 3 #[m.v] w fun e w' => e = .returned (.bool true) ∧ Below w.heap.size w w' := by
 have HR := Aside0.mk h
 have HF := Aside0.mk hf
 have hel := enc_len m
 have HEL := Aside0.mk hel
 clear hel
 clear hf
 have HRT : Aside0 (wire_Right.f 20 m.k m.a m.s m.b m.p m.q m.n m.t m.i m.y m.d m.m = some true) := ⟨(right_f m 19).1 h⟩
 have HEN : Aside0 (wire_Encode.f 20 m.k m.a m.s m.b m.p m.q m.n m.t m.i m.y m.d m.m = some (enc m)) := ⟨encode_yes m h⟩
 clear h
 go_enter Try.func3, Try.ntmps3
 unfold Msg.v
 go_wp2_with (fail)
 refine (to_ _ _ _ _ _ _ _ _ _ _ _ _ _).mono ?_
 rintro e w1 ⟨rfl, hb⟩
 have B1 := Aside0.mk (blk_below (new_at w (.cells #[.int .i64 m.k, .int .i64 m.a, .int .i64 m.s, .bool m.b, .int .i64 m.p, .int .i64 m.q, .int .i64 m.n, .int .i64 m.t, .int .i64 m.i, .int .i64 m.y, .int .i64 m.d, .int .i64 m.m] 25) _ rfl) hb)
 have HB := Aside0.mk (below_step ((Below.refl w.heap.size w).alloc (Nat.le_refl _) (.cells #[.int .i64 m.k, .int .i64 m.a, .int .i64 m.s, .bool m.b, .int .i64 m.p, .int .i64 m.q, .int .i64 m.n, .int .i64 m.t, .int .i64 m.i, .int .i64 m.y, .int .i64 m.d, .int .i64 m.m] 25)) hb)
 clear hb
 go_wp2_with (fail)
 refine (wire_Encode.calls 20 m.k m.a m.s m.b m.p m.q m.n m.t m.i m.y m.d m.m _ _ HEN.out).mono ?_
 rintro e w2 ⟨v, rfl, ho, hb⟩
 obtain ⟨A2, c2, rfl, hc2, hC2⟩ := Kd.R_reads ho
 have HC := Aside0.mk hC2
 have B2 := Aside0.mk (blk_below B1.out hb)
 have HB2 := Aside0.mk (below_step HB.out hb)
 clear ho hb hC2 B1 HB
 go_wp2_with (fail)
 refine (decode_ A2 c2 (enc m) _ HC.out hc2 (enc_bytes m) (by have := HEL.out; omega)).mono ?_
 rintro e w3 ⟨hd, hb⟩
 obtain ⟨A3, c3, he, hc3, hB3, hF3⟩ := hd.yes m [] (by have := dec_enc m [] HR.out HF.out; rw [List.append_nil] at this; exact this)
 subst he
 have HC3 := Aside0.mk (Kd.C_below HC.out hb)
 have B3 := Aside0.mk (blk_below B2.out hb)
 have HB3 := Aside0.mk (below_step HB2.out hb)
 clear hd hb HC B2 HB2 hc3 hB3 hF3
 unfold Msg.v
 simp only [List.length_nil]
 go_wp2_with (fail)
 have hn0 : decide (0 < (enc m).length) = true := decide_eq_true (by have := HEL.out; omega)
 have hn1 : ((enc m).length == 0) = false := beq_eq_false_iff_ne.mpr (by have := HEL.out; omega)
 have hn2 : decide ((0 : Int) < ((enc m).length : Int)) = true := decide_eq_true (by have := HEL.out; omega)
 have hn3 : (((enc m).length : Int) == 0) = false := beq_eq_false_iff_ne.mpr (by have := HEL.out; omega)
 have T : (fun w' => Aside0 (w'.heap[w.heap.size]? = some (.cells #[.int .i64 m.k, .int .i64 m.a, .int .i64 m.s, .bool m.b, .int .i64 m.p, .int .i64 m.q, .int .i64 m.n, .int .i64 m.t, .int .i64 m.i, .int .i64 m.y, .int .i64 m.d, .int .i64 m.m] 25)) ∧ Aside0 (w'.heap[w3.heap.size]? = some (.cells #[.int .i64 m.k, .int .i64 m.a, .int .i64 m.s, .bool m.b, .int .i64 m.p, .int .i64 m.q, .int .i64 m.n, .int .i64 m.t, .int .i64 m.i, .int .i64 m.y, .int .i64 m.d, .int .i64 m.m] 30)) ∧ Aside0 (Kd.C (Kd.int .u8) w' A2 (enc m).length (enc m)) ∧ Aside0 (Below w.heap.size w w')) (World.drew (w3.alloc (.cells #[.int .i64 m.k, .int .i64 m.a, .int .i64 m.s, .bool m.b, .int .i64 m.p, .int .i64 m.q, .int .i64 m.n, .int .i64 m.t, .int .i64 m.i, .int .i64 m.y, .int .i64 m.d, .int .i64 m.m] 30))) := ⟨⟨blk_drew (blk_alloc B3.out _)⟩, ⟨blk_drew (new_at w3 _ _ rfl)⟩, ⟨Kd.C_alloc HC3.out (.cells #[.int .i64 m.k, .int .i64 m.a, .int .i64 m.s, .bool m.b, .int .i64 m.p, .int .i64 m.q, .int .i64 m.n, .int .i64 m.t, .int .i64 m.i, .int .i64 m.y, .int .i64 m.d, .int .i64 m.m] 30)⟩, ⟨(HB3.out.alloc (below_size HB3.out) _).drew⟩⟩
 clear B3 HC3 HB3
 refine wp_region_seq (fun w' => Aside0 (w'.heap[w.heap.size]? = some (.cells #[.int .i64 m.k, .int .i64 m.a, .int .i64 m.s, .bool m.b, .int .i64 m.p, .int .i64 m.q, .int .i64 m.n, .int .i64 m.t, .int .i64 m.i, .int .i64 m.y, .int .i64 m.d, .int .i64 m.m] 25)) ∧ Aside0 (w'.heap[w3.heap.size]? = some (.cells #[.int .i64 m.k, .int .i64 m.a, .int .i64 m.s, .bool m.b, .int .i64 m.p, .int .i64 m.q, .int .i64 m.n, .int .i64 m.t, .int .i64 m.i, .int .i64 m.y, .int .i64 m.d, .int .i64 m.m] 30)) ∧ Aside0 (Kd.C (Kd.int .u8) w' A2 (enc m).length (enc m)) ∧ Aside0 (Below w.heap.size w w')) [0, 4, 5, 7, 14, 15, 23] [0, 1, 2, 3, 6, 4, 5, 7, 8, 9, 10, 11, 12, 13, 14, 15, 16, 17, 18, 19, 20, 21, 22, 23, 24, 25] (by kernel_rfl) (by kernel_rfl) (by kernel_rfl) (by kernel_rfl) (by kernel_rfl) (fun _ _ d _ _ h => by cases d <;> exact h) ?h0 ?hseq
 case h0 => exact T
 case hseq =>
  refine seq_op rfl (by kernel_rfl) (by rfl) (fun K hK => ?_)
  go_simp
  go_at_call 18
  refine (told _).mono ?_
  rintro e u2 ⟨rfl, hb⟩
  obtain ⟨s0, s1, s2, s3⟩ := T
  have T : (fun w' => Aside0 (w'.heap[w.heap.size]? = some (.cells #[.int .i64 m.k, .int .i64 m.a, .int .i64 m.s, .bool m.b, .int .i64 m.p, .int .i64 m.q, .int .i64 m.n, .int .i64 m.t, .int .i64 m.i, .int .i64 m.y, .int .i64 m.d, .int .i64 m.m] 25)) ∧ Aside0 (w'.heap[w3.heap.size]? = some (.cells #[.int .i64 m.k, .int .i64 m.a, .int .i64 m.s, .bool m.b, .int .i64 m.p, .int .i64 m.q, .int .i64 m.n, .int .i64 m.t, .int .i64 m.i, .int .i64 m.y, .int .i64 m.d, .int .i64 m.m] 30)) ∧ Aside0 (Kd.C (Kd.int .u8) w' A2 (enc m).length (enc m)) ∧ Aside0 (Below w.heap.size w w')) u2 := ⟨⟨blk_below s0.out hb⟩, ⟨blk_below s1.out hb⟩, ⟨Kd.C_below s2.out hb⟩, ⟨below_step s3.out hb⟩⟩
  refine hK _ _ T ?_
  clear hK K hb s0 s1 s2 s3
  first | (refine seq_val (v := ?_) (a' := ?_) rfl ?_ ?_ ?_ ?_; rotate_left 2; (· rfl); (· intro w0 hS; go_simp; first | done | with_reducible rfl); (· go_simp; first | done | with_reducible rfl)) | (refine seq_off (a' := ?_) rfl ?_ ?_ ?_; rotate_left 1; (· rfl); (· go_simp; first | done | with_reducible rfl))
  first | (refine seq_val (v := ?_) (a' := ?_) rfl ?_ ?_ ?_ ?_; rotate_left 2; (· rfl); (· intro w0 hS; go_simp; first | done | with_reducible rfl); (· go_simp; first | done | with_reducible rfl)) | (refine seq_off (a' := ?_) rfl ?_ ?_ ?_; rotate_left 1; (· rfl); (· go_simp; first | done | with_reducible rfl))
  first | (refine seq_val (v := ?_) (a' := ?_) rfl ?_ ?_ ?_ ?_; rotate_left 2; (· rfl); (· intro w0 hS; obtain ⟨s0, s1, s2, s3⟩ := hS; have x0 := (blk_cell s0.out 0).trans rfl; have x1 := (blk_cell s0.out 1).trans rfl; have x2 := (blk_cell s0.out 2).trans rfl; have x3 := (blk_cell s0.out 3).trans rfl; have x4 := (blk_cell s0.out 4).trans rfl; have x5 := (blk_cell s0.out 5).trans rfl; have x6 := (blk_cell s0.out 6).trans rfl; have x7 := (blk_cell s0.out 7).trans rfl; have x8 := (blk_cell s0.out 8).trans rfl; have x9 := (blk_cell s0.out 9).trans rfl; have x10 := (blk_cell s0.out 10).trans rfl; have x11 := (blk_cell s0.out 11).trans rfl; go_simp; first | done | with_reducible rfl); (· go_simp; first | done | with_reducible rfl)) | (refine seq_off (a' := ?_) rfl ?_ ?_ ?_; rotate_left 1; (· rfl); (· go_simp; first | done | with_reducible rfl))
  first | (refine seq_val (v := ?_) (a' := ?_) rfl ?_ ?_ ?_ ?_; rotate_left 2; (· rfl); (· intro w0 hS; obtain ⟨s0, s1, s2, s3⟩ := hS; have x0 := (blk_cell s0.out 0).trans rfl; have x1 := (blk_cell s0.out 1).trans rfl; have x2 := (blk_cell s0.out 2).trans rfl; have x3 := (blk_cell s0.out 3).trans rfl; have x4 := (blk_cell s0.out 4).trans rfl; have x5 := (blk_cell s0.out 5).trans rfl; have x6 := (blk_cell s0.out 6).trans rfl; have x7 := (blk_cell s0.out 7).trans rfl; have x8 := (blk_cell s0.out 8).trans rfl; have x9 := (blk_cell s0.out 9).trans rfl; have x10 := (blk_cell s0.out 10).trans rfl; have x11 := (blk_cell s0.out 11).trans rfl; go_simp; first | done | with_reducible rfl); (· go_simp; first | done | with_reducible rfl)) | (refine seq_off (a' := ?_) rfl ?_ ?_ ?_; rotate_left 1; (· rfl); (· go_simp; first | done | with_reducible rfl))
  refine seq_op rfl (by kernel_rfl) (by rfl) (fun K hK => ?_)
  go_simp
  go_at_call 16
  refine (to_ _ _ _ _ _ _ _ _ _ _ _ _ _ ).mono ?_
  rintro e u3 ⟨rfl, hb⟩
  obtain ⟨s0, s1, s2, s3⟩ := T
  have T : (fun w' => Aside0 (w'.heap[w.heap.size]? = some (.cells #[.int .i64 m.k, .int .i64 m.a, .int .i64 m.s, .bool m.b, .int .i64 m.p, .int .i64 m.q, .int .i64 m.n, .int .i64 m.t, .int .i64 m.i, .int .i64 m.y, .int .i64 m.d, .int .i64 m.m] 25)) ∧ Aside0 (w'.heap[w3.heap.size]? = some (.cells #[.int .i64 m.k, .int .i64 m.a, .int .i64 m.s, .bool m.b, .int .i64 m.p, .int .i64 m.q, .int .i64 m.n, .int .i64 m.t, .int .i64 m.i, .int .i64 m.y, .int .i64 m.d, .int .i64 m.m] 30)) ∧ Aside0 (Kd.C (Kd.int .u8) w' A2 (enc m).length (enc m)) ∧ Aside0 (Below w.heap.size w w')) u3 := ⟨⟨blk_below s0.out hb⟩, ⟨blk_below s1.out hb⟩, ⟨Kd.C_below s2.out hb⟩, ⟨below_step s3.out hb⟩⟩
  refine hK _ _ T ?_
  clear hK K hb s0 s1 s2 s3
  refine seq_op rfl (by kernel_rfl) (by rfl) (fun K hK => ?_)
  go_simp
  go_at_call 19
  refine (wire_Right.calls 20 m.k m.a m.s m.b m.p m.q m.n m.t m.i m.y m.d m.m true _ HRT.out).mono ?_
  rintro e u4 ⟨rfl, hb⟩
  obtain ⟨s0, s1, s2, s3⟩ := T
  have T : (fun w' => Aside0 (w'.heap[w.heap.size]? = some (.cells #[.int .i64 m.k, .int .i64 m.a, .int .i64 m.s, .bool m.b, .int .i64 m.p, .int .i64 m.q, .int .i64 m.n, .int .i64 m.t, .int .i64 m.i, .int .i64 m.y, .int .i64 m.d, .int .i64 m.m] 25)) ∧ Aside0 (w'.heap[w3.heap.size]? = some (.cells #[.int .i64 m.k, .int .i64 m.a, .int .i64 m.s, .bool m.b, .int .i64 m.p, .int .i64 m.q, .int .i64 m.n, .int .i64 m.t, .int .i64 m.i, .int .i64 m.y, .int .i64 m.d, .int .i64 m.m] 30)) ∧ Aside0 (Kd.C (Kd.int .u8) w' A2 (enc m).length (enc m)) ∧ Aside0 (Below w.heap.size w w')) u4 := ⟨⟨blk_below s0.out hb⟩, ⟨blk_below s1.out hb⟩, ⟨Kd.C_below s2.out hb⟩, ⟨below_step s3.out hb⟩⟩
  refine hK _ _ T ?_
  clear hK K hb s0 s1 s2 s3
  refine seq_op rfl (by kernel_rfl) (by rfl) (fun K hK => ?_)
  go_simp
  go_at_call 20
  refine (rright_ m _).mono ?_
  rintro e u5 ⟨hrr, hb⟩
  obtain ⟨r, rfl, hr⟩ := hrr
  obtain rfl : r = true := hr.2 HR.out
  clear hr
  obtain ⟨s0, s1, s2, s3⟩ := T
  have T : (fun w' => Aside0 (w'.heap[w.heap.size]? = some (.cells #[.int .i64 m.k, .int .i64 m.a, .int .i64 m.s, .bool m.b, .int .i64 m.p, .int .i64 m.q, .int .i64 m.n, .int .i64 m.t, .int .i64 m.i, .int .i64 m.y, .int .i64 m.d, .int .i64 m.m] 25)) ∧ Aside0 (w'.heap[w3.heap.size]? = some (.cells #[.int .i64 m.k, .int .i64 m.a, .int .i64 m.s, .bool m.b, .int .i64 m.p, .int .i64 m.q, .int .i64 m.n, .int .i64 m.t, .int .i64 m.i, .int .i64 m.y, .int .i64 m.d, .int .i64 m.m] 30)) ∧ Aside0 (Kd.C (Kd.int .u8) w' A2 (enc m).length (enc m)) ∧ Aside0 (Below w.heap.size w w')) u5 := ⟨⟨blk_below s0.out hb⟩, ⟨blk_below s1.out hb⟩, ⟨Kd.C_below s2.out hb⟩, ⟨below_step s3.out hb⟩⟩
  refine hK _ _ T ?_
  clear hK K hb s0 s1 s2 s3
  first | (refine seq_val (v := ?_) (a' := ?_) rfl ?_ ?_ ?_ ?_; rotate_left 2; (· rfl); (· intro w0 hS; go_simp; first | done | with_reducible rfl); (· go_simp; first | done | with_reducible rfl)) | (refine seq_off (a' := ?_) rfl ?_ ?_ ?_; rotate_left 1; (· rfl); (· go_simp; first | done | with_reducible rfl))
  first | (refine seq_val (v := ?_) (a' := ?_) rfl ?_ ?_ ?_ ?_; rotate_left 2; (· rfl); (· intro w0 hS; go_simp; first | done | with_reducible rfl); (· go_simp; first | done | with_reducible rfl)) | (refine seq_off (a' := ?_) rfl ?_ ?_ ?_; rotate_left 1; (· rfl); (· go_simp; first | done | with_reducible rfl))
  first | (refine seq_val (v := ?_) (a' := ?_) rfl ?_ ?_ ?_ ?_; rotate_left 2; (· rfl); (· intro w0 hS; go_simp; first | done | with_reducible rfl); (· go_simp; first | done | with_reducible rfl)) | (refine seq_off (a' := ?_) rfl ?_ ?_ ?_; rotate_left 1; (· rfl); (· go_simp; first | done | with_reducible rfl))
  first | (refine seq_val (v := ?_) (a' := ?_) rfl ?_ ?_ ?_ ?_; rotate_left 2; (· rfl); (· intro w0 hS; go_simp; first | done | with_reducible rfl); (· go_simp; first | done | with_reducible rfl)) | (refine seq_off (a' := ?_) rfl ?_ ?_ ?_; rotate_left 1; (· rfl); (· go_simp; first | done | with_reducible rfl))
  first | (refine seq_val (v := ?_) (a' := ?_) rfl ?_ ?_ ?_ ?_; rotate_left 2; (· rfl); (· intro w0 hS; obtain ⟨s0, s1, s2, s3⟩ := hS; have hs := Kd.C_string (c := c2) Try.underlying26 Try.underlying5 Try.underlying9 s2.out; go_simp; first | done | with_reducible rfl); (· go_simp; first | done | with_reducible rfl)) | (refine seq_off (a' := ?_) rfl ?_ ?_ ?_; rotate_left 1; (· rfl); (· go_simp; first | done | with_reducible rfl))
  first | (refine seq_val (v := ?_) (a' := ?_) rfl ?_ ?_ ?_ ?_; rotate_left 2; (· rfl); (· intro w0 hS; obtain ⟨s0, s1, s2, s3⟩ := hS; have x0 := (blk_cell s0.out 0).trans rfl; have x1 := (blk_cell s0.out 1).trans rfl; have x2 := (blk_cell s0.out 2).trans rfl; have x3 := (blk_cell s0.out 3).trans rfl; have x4 := (blk_cell s0.out 4).trans rfl; have x5 := (blk_cell s0.out 5).trans rfl; have x6 := (blk_cell s0.out 6).trans rfl; have x7 := (blk_cell s0.out 7).trans rfl; have x8 := (blk_cell s0.out 8).trans rfl; have x9 := (blk_cell s0.out 9).trans rfl; have x10 := (blk_cell s0.out 10).trans rfl; have x11 := (blk_cell s0.out 11).trans rfl; go_simp; first | done | with_reducible rfl); (· go_simp; first | done | with_reducible rfl)) | (refine seq_off (a' := ?_) rfl ?_ ?_ ?_; rotate_left 1; (· rfl); (· go_simp; first | done | with_reducible rfl))
  refine seq_op rfl (by kernel_rfl) (by rfl) (fun K hK => ?_)
  go_simp
  go_at_call 21
  refine (renc_ m HR.out HF.out _).mono ?_
  rintro e u1 ⟨v, rfl, ho, hb⟩
  obtain ⟨A5, c5, rfl, hc5, hC5⟩ := Kd.R_reads ho
  have HC5 := Aside0.mk hC5
  clear ho hC5 hc5
  obtain ⟨s0, s1, s2, s3⟩ := T
  have T : (fun w' => Aside0 (w'.heap[w.heap.size]? = some (.cells #[.int .i64 m.k, .int .i64 m.a, .int .i64 m.s, .bool m.b, .int .i64 m.p, .int .i64 m.q, .int .i64 m.n, .int .i64 m.t, .int .i64 m.i, .int .i64 m.y, .int .i64 m.d, .int .i64 m.m] 25)) ∧ Aside0 (w'.heap[w3.heap.size]? = some (.cells #[.int .i64 m.k, .int .i64 m.a, .int .i64 m.s, .bool m.b, .int .i64 m.p, .int .i64 m.q, .int .i64 m.n, .int .i64 m.t, .int .i64 m.i, .int .i64 m.y, .int .i64 m.d, .int .i64 m.m] 30)) ∧ Aside0 (Kd.C (Kd.int .u8) w' A2 (enc m).length (enc m)) ∧ Aside0 (Below w.heap.size w w')) u1 := ⟨⟨blk_below s0.out hb⟩, ⟨blk_below s1.out hb⟩, ⟨Kd.C_below s2.out hb⟩, ⟨below_step s3.out hb⟩⟩
  refine hK _ _ T ?_
  clear hK K hb s0 s1 s2 s3
  refine seq_op rfl (by kernel_rfl) (by rfl) (fun K hK => ?_)
  have hs := Kd.C_string (c := c5) Try.underlying26 Try.underlying5 Try.underlying9 HC5.out
  go_simp
  refine hK _ _ T ?_
  clear hK K
  first | (refine seq_val (v := ?_) (a' := ?_) rfl ?_ ?_ ?_ ?_; rotate_left 2; (· rfl); (· intro w0 hS; go_simp; first | done | with_reducible rfl); (· go_simp; first | done | with_reducible rfl)) | (refine seq_off (a' := ?_) rfl ?_ ?_ ?_; rotate_left 1; (· rfl); (· go_simp; first | done | with_reducible rfl))
  first | (refine seq_val (v := ?_) (a' := ?_) rfl ?_ ?_ ?_ ?_; rotate_left 2; (· rfl); (· intro w0 hS; go_simp; first | done | with_reducible rfl); (· go_simp; first | done | with_reducible rfl)) | (refine seq_off (a' := ?_) rfl ?_ ?_ ?_; rotate_left 1; (· rfl); (· go_simp; first | done | with_reducible rfl))
  first | (refine seq_val (v := ?_) (a' := ?_) rfl ?_ ?_ ?_ ?_; rotate_left 2; (· rfl); (· intro w0 hS; go_simp; first | done | with_reducible rfl); (· go_simp; first | done | with_reducible rfl)) | (refine seq_off (a' := ?_) rfl ?_ ?_ ?_; rotate_left 1; (· rfl); (· go_simp; first | done | with_reducible rfl))
  first | (refine seq_val (v := ?_) (a' := ?_) rfl ?_ ?_ ?_ ?_; rotate_left 2; (· rfl); (· intro w0 hS; go_simp; first | done | with_reducible rfl); (· go_simp; first | done | with_reducible rfl)) | (refine seq_off (a' := ?_) rfl ?_ ?_ ?_; rotate_left 1; (· rfl); (· go_simp; first | done | with_reducible rfl))
  first | (refine seq_val (v := ?_) (a' := ?_) rfl ?_ ?_ ?_ ?_; rotate_left 2; (· rfl); (· intro w0 hS; go_simp; first | done | with_reducible rfl); (· go_simp; first | done | with_reducible rfl)) | (refine seq_off (a' := ?_) rfl ?_ ?_ ?_; rotate_left 1; (· rfl); (· go_simp; first | done | with_reducible rfl))
  first | (refine seq_val (v := ?_) (a' := ?_) rfl ?_ ?_ ?_ ?_; rotate_left 2; (· rfl); (· intro w0 hS; go_simp; first | done | with_reducible rfl); (· go_simp; first | done | with_reducible rfl)) | (refine seq_off (a' := ?_) rfl ?_ ?_ ?_; rotate_left 1; (· rfl); (· go_simp; first | done | with_reducible rfl))
  first | (refine seq_val (v := ?_) (a' := ?_) rfl ?_ ?_ ?_ ?_; rotate_left 2; (· rfl); (· intro w0 hS; obtain ⟨s0, s1, s2, s3⟩ := hS; have x0 := (blk_cell s0.out 0).trans rfl; have x1 := (blk_cell s0.out 1).trans rfl; have x2 := (blk_cell s0.out 2).trans rfl; have x3 := (blk_cell s0.out 3).trans rfl; have x4 := (blk_cell s0.out 4).trans rfl; have x5 := (blk_cell s0.out 5).trans rfl; have x6 := (blk_cell s0.out 6).trans rfl; have x7 := (blk_cell s0.out 7).trans rfl; have x8 := (blk_cell s0.out 8).trans rfl; have x9 := (blk_cell s0.out 9).trans rfl; have x10 := (blk_cell s0.out 10).trans rfl; have x11 := (blk_cell s0.out 11).trans rfl; go_simp; first | done | with_reducible rfl); (· go_simp; first | done | with_reducible rfl)) | (refine seq_off (a' := ?_) rfl ?_ ?_ ?_; rotate_left 1; (· rfl); (· go_simp; first | done | with_reducible rfl))
  refine seq_op rfl (by kernel_rfl) (by rfl) (fun K hK => ?_)
  go_simp
  go_at_call 20
  refine (rright_ m _).mono ?_
  rintro e u6 ⟨hrr, hb⟩
  obtain ⟨r, rfl, hr⟩ := hrr
  obtain rfl : r = true := hr.2 HR.out
  clear hr
  obtain ⟨s0, s1, s2, s3⟩ := T
  have T : (fun w' => Aside0 (w'.heap[w.heap.size]? = some (.cells #[.int .i64 m.k, .int .i64 m.a, .int .i64 m.s, .bool m.b, .int .i64 m.p, .int .i64 m.q, .int .i64 m.n, .int .i64 m.t, .int .i64 m.i, .int .i64 m.y, .int .i64 m.d, .int .i64 m.m] 25)) ∧ Aside0 (w'.heap[w3.heap.size]? = some (.cells #[.int .i64 m.k, .int .i64 m.a, .int .i64 m.s, .bool m.b, .int .i64 m.p, .int .i64 m.q, .int .i64 m.n, .int .i64 m.t, .int .i64 m.i, .int .i64 m.y, .int .i64 m.d, .int .i64 m.m] 30)) ∧ Aside0 (Kd.C (Kd.int .u8) w' A2 (enc m).length (enc m)) ∧ Aside0 (Below w.heap.size w w')) u6 := ⟨⟨blk_below s0.out hb⟩, ⟨blk_below s1.out hb⟩, ⟨Kd.C_below s2.out hb⟩, ⟨below_step s3.out hb⟩⟩
  refine hK _ _ T ?_
  clear hK K hb s0 s1 s2 s3
  first | (refine seq_val (v := ?_) (a' := ?_) rfl ?_ ?_ ?_ ?_; rotate_left 2; (· rfl); (· intro w0 hS; go_simp; first | done | with_reducible rfl); (· go_simp; first | done | with_reducible rfl)) | (refine seq_off (a' := ?_) rfl ?_ ?_ ?_; rotate_left 1; (· rfl); (· go_simp; first | done | with_reducible rfl))
  first | (refine seq_val (v := ?_) (a' := ?_) rfl ?_ ?_ ?_ ?_; rotate_left 2; (· rfl); (· intro w0 hS; go_simp; first | done | with_reducible rfl); (· go_simp; first | done | with_reducible rfl)) | (refine seq_off (a' := ?_) rfl ?_ ?_ ?_; rotate_left 1; (· rfl); (· go_simp; first | done | with_reducible rfl))
  refine seq_nil ?_
  clear hs HC5
  go_wp2_with (fail)
  obtain ⟨s0, s1, s2, s3⟩ := T
  have T : (fun w' => Aside0 (w'.heap[w.heap.size]? = some (.cells #[.int .i64 m.k, .int .i64 m.a, .int .i64 m.s, .bool m.b, .int .i64 m.p, .int .i64 m.q, .int .i64 m.n, .int .i64 m.t, .int .i64 m.i, .int .i64 m.y, .int .i64 m.d, .int .i64 m.m] 25)) ∧ Aside0 (w'.heap[w3.heap.size]? = some (.cells #[.int .i64 m.k, .int .i64 m.a, .int .i64 m.s, .bool m.b, .int .i64 m.p, .int .i64 m.q, .int .i64 m.n, .int .i64 m.t, .int .i64 m.i, .int .i64 m.y, .int .i64 m.d, .int .i64 m.m] 30)) ∧ Aside0 (Kd.C (Kd.int .u8) w' A2 (enc m).length (enc m)) ∧ Aside0 (Below w.heap.size w w')) (World.drew u6) := ⟨⟨blk_drew s0.out⟩, ⟨blk_drew s1.out⟩, ⟨s2.out⟩, ⟨s3.out.drew⟩⟩
  clear s0 s1 s2 s3
  refine wp_region_seq (fun w' => Aside0 (w'.heap[w.heap.size]? = some (.cells #[.int .i64 m.k, .int .i64 m.a, .int .i64 m.s, .bool m.b, .int .i64 m.p, .int .i64 m.q, .int .i64 m.n, .int .i64 m.t, .int .i64 m.i, .int .i64 m.y, .int .i64 m.d, .int .i64 m.m] 25)) ∧ Aside0 (w'.heap[w3.heap.size]? = some (.cells #[.int .i64 m.k, .int .i64 m.a, .int .i64 m.s, .bool m.b, .int .i64 m.p, .int .i64 m.q, .int .i64 m.n, .int .i64 m.t, .int .i64 m.i, .int .i64 m.y, .int .i64 m.d, .int .i64 m.m] 30)) ∧ Aside0 (Kd.C (Kd.int .u8) w' A2 (enc m).length (enc m)) ∧ Aside0 (Below w.heap.size w w')) [9] [0, 1, 2, 3, 4, 5, 6, 7, 8, 9, 10, 11, 12, 13, 14, 15, 16, 17, 18] (by kernel_rfl) (by kernel_rfl) (by kernel_rfl) (by kernel_rfl) (by kernel_rfl) (fun _ _ d _ _ h => by cases d <;> exact h) ?h0 ?hseq
  case h0 => exact T
  case hseq =>
   first | (refine seq_val (v := ?_) (a' := ?_) rfl ?_ ?_ ?_ ?_; rotate_left 2; (· rfl); (· intro w0 hS; go_simp; first | done | with_reducible rfl); (· go_simp; first | done | with_reducible rfl)) | (refine seq_off (a' := ?_) rfl ?_ ?_ ?_; rotate_left 1; (· rfl); (· go_simp; first | done | with_reducible rfl))
   first | (refine seq_val (v := ?_) (a' := ?_) rfl ?_ ?_ ?_ ?_; rotate_left 2; (· rfl); (· intro w0 hS; go_simp; first | done | with_reducible rfl); (· go_simp; first | done | with_reducible rfl)) | (refine seq_off (a' := ?_) rfl ?_ ?_ ?_; rotate_left 1; (· rfl); (· go_simp; first | done | with_reducible rfl))
   first | (refine seq_val (v := ?_) (a' := ?_) rfl ?_ ?_ ?_ ?_; rotate_left 2; (· rfl); (· intro w0 hS; go_simp; first | done | with_reducible rfl); (· go_simp; first | done | with_reducible rfl)) | (refine seq_off (a' := ?_) rfl ?_ ?_ ?_; rotate_left 1; (· rfl); (· go_simp; first | done | with_reducible rfl))
   first | (refine seq_val (v := ?_) (a' := ?_) rfl ?_ ?_ ?_ ?_; rotate_left 2; (· rfl); (· intro w0 hS; go_simp; first | done | with_reducible rfl); (· go_simp; first | done | with_reducible rfl)) | (refine seq_off (a' := ?_) rfl ?_ ?_ ?_; rotate_left 1; (· rfl); (· go_simp; first | done | with_reducible rfl))
   first | (refine seq_val (v := ?_) (a' := ?_) rfl ?_ ?_ ?_ ?_; rotate_left 2; (· rfl); (· intro w0 hS; go_simp; first | done | with_reducible rfl); (· go_simp; first | done | with_reducible rfl)) | (refine seq_off (a' := ?_) rfl ?_ ?_ ?_; rotate_left 1; (· rfl); (· go_simp; first | done | with_reducible rfl))
   first | (refine seq_val (v := ?_) (a' := ?_) rfl ?_ ?_ ?_ ?_; rotate_left 2; (· rfl); (· intro w0 hS; go_simp; first | done | with_reducible rfl); (· go_simp; first | done | with_reducible rfl)) | (refine seq_off (a' := ?_) rfl ?_ ?_ ?_; rotate_left 1; (· rfl); (· go_simp; first | done | with_reducible rfl))
   first | (refine seq_val (v := ?_) (a' := ?_) rfl ?_ ?_ ?_ ?_; rotate_left 2; (· rfl); (· intro w0 hS; go_simp; first | done | with_reducible rfl); (· go_simp; first | done | with_reducible rfl)) | (refine seq_off (a' := ?_) rfl ?_ ?_ ?_; rotate_left 1; (· rfl); (· go_simp; first | done | with_reducible rfl))
   first | (refine seq_val (v := ?_) (a' := ?_) rfl ?_ ?_ ?_ ?_; rotate_left 2; (· rfl); (· intro w0 hS; obtain ⟨s0, s1, s2, s3⟩ := hS; have x0 := (blk_cell s1.out 0).trans rfl; have x1 := (blk_cell s1.out 1).trans rfl; have x2 := (blk_cell s1.out 2).trans rfl; have x3 := (blk_cell s1.out 3).trans rfl; have x4 := (blk_cell s1.out 4).trans rfl; have x5 := (blk_cell s1.out 5).trans rfl; have x6 := (blk_cell s1.out 6).trans rfl; have x7 := (blk_cell s1.out 7).trans rfl; have x8 := (blk_cell s1.out 8).trans rfl; have x9 := (blk_cell s1.out 9).trans rfl; have x10 := (blk_cell s1.out 10).trans rfl; have x11 := (blk_cell s1.out 11).trans rfl; go_simp; first | done | with_reducible rfl); (· go_simp; first | done | with_reducible rfl)) | (refine seq_off (a' := ?_) rfl ?_ ?_ ?_; rotate_left 1; (· rfl); (· go_simp; first | done | with_reducible rfl))
   first | (refine seq_val (v := ?_) (a' := ?_) rfl ?_ ?_ ?_ ?_; rotate_left 2; (· rfl); (· intro w0 hS; obtain ⟨s0, s1, s2, s3⟩ := hS; have x0 := (blk_cell s0.out 0).trans rfl; have x1 := (blk_cell s0.out 1).trans rfl; have x2 := (blk_cell s0.out 2).trans rfl; have x3 := (blk_cell s0.out 3).trans rfl; have x4 := (blk_cell s0.out 4).trans rfl; have x5 := (blk_cell s0.out 5).trans rfl; have x6 := (blk_cell s0.out 6).trans rfl; have x7 := (blk_cell s0.out 7).trans rfl; have x8 := (blk_cell s0.out 8).trans rfl; have x9 := (blk_cell s0.out 9).trans rfl; have x10 := (blk_cell s0.out 10).trans rfl; have x11 := (blk_cell s0.out 11).trans rfl; go_simp; first | done | with_reducible rfl); (· go_simp; first | done | with_reducible rfl)) | (refine seq_off (a' := ?_) rfl ?_ ?_ ?_; rotate_left 1; (· rfl); (· go_simp; first | done | with_reducible rfl))
   refine seq_op rfl (by kernel_rfl) (by rfl) (fun K hK => ?_)
   go_simp
   go_at_call 16
   refine (to_ _ _ _ _ _ _ _ _ _ _ _ _ _ ).mono ?_
   rintro e u7 ⟨rfl, hb⟩
   obtain ⟨s0, s1, s2, s3⟩ := T
   have T : (fun w' => Aside0 (w'.heap[w.heap.size]? = some (.cells #[.int .i64 m.k, .int .i64 m.a, .int .i64 m.s, .bool m.b, .int .i64 m.p, .int .i64 m.q, .int .i64 m.n, .int .i64 m.t, .int .i64 m.i, .int .i64 m.y, .int .i64 m.d, .int .i64 m.m] 25)) ∧ Aside0 (w'.heap[w3.heap.size]? = some (.cells #[.int .i64 m.k, .int .i64 m.a, .int .i64 m.s, .bool m.b, .int .i64 m.p, .int .i64 m.q, .int .i64 m.n, .int .i64 m.t, .int .i64 m.i, .int .i64 m.y, .int .i64 m.d, .int .i64 m.m] 30)) ∧ Aside0 (Kd.C (Kd.int .u8) w' A2 (enc m).length (enc m)) ∧ Aside0 (Below w.heap.size w w')) u7 := ⟨⟨blk_below s0.out hb⟩, ⟨blk_below s1.out hb⟩, ⟨Kd.C_below s2.out hb⟩, ⟨below_step s3.out hb⟩⟩
   refine hK _ _ T ?_
   clear hK K hb s0 s1 s2 s3
   first | (refine seq_val (v := ?_) (a' := ?_) rfl ?_ ?_ ?_ ?_; rotate_left 2; (· rfl); (· intro w0 hS; go_simp; first | done | with_reducible rfl); (· go_simp; first | done | with_reducible rfl)) | (refine seq_off (a' := ?_) rfl ?_ ?_ ?_; rotate_left 1; (· rfl); (· go_simp; first | done | with_reducible rfl))
   first | (refine seq_val (v := ?_) (a' := ?_) rfl ?_ ?_ ?_ ?_; rotate_left 2; (· rfl); (· intro w0 hS; go_simp; first | done | with_reducible rfl); (· go_simp; first | done | with_reducible rfl)) | (refine seq_off (a' := ?_) rfl ?_ ?_ ?_; rotate_left 1; (· rfl); (· go_simp; first | done | with_reducible rfl))
   first | (refine seq_val (v := ?_) (a' := ?_) rfl ?_ ?_ ?_ ?_; rotate_left 2; (· rfl); (· intro w0 hS; go_simp; first | done | with_reducible rfl); (· go_simp; first | done | with_reducible rfl)) | (refine seq_off (a' := ?_) rfl ?_ ?_ ?_; rotate_left 1; (· rfl); (· go_simp; first | done | with_reducible rfl))
   first | (refine seq_val (v := ?_) (a' := ?_) rfl ?_ ?_ ?_ ?_; rotate_left 2; (· rfl); (· intro w0 hS; go_simp; first | done | with_reducible rfl); (· go_simp; first | done | with_reducible rfl)) | (refine seq_off (a' := ?_) rfl ?_ ?_ ?_; rotate_left 1; (· rfl); (· go_simp; first | done | with_reducible rfl))
   first | (refine seq_val (v := ?_) (a' := ?_) rfl ?_ ?_ ?_ ?_; rotate_left 2; (· rfl); (· intro w0 hS; go_simp; first | done | with_reducible rfl); (· go_simp; first | done | with_reducible rfl)) | (refine seq_off (a' := ?_) rfl ?_ ?_ ?_; rotate_left 1; (· rfl); (· go_simp; first | done | with_reducible rfl))
   first | (refine seq_val (v := ?_) (a' := ?_) rfl ?_ ?_ ?_ ?_; rotate_left 2; (· rfl); (· intro w0 hS; go_simp; first | done | with_reducible rfl); (· go_simp; first | done | with_reducible rfl)) | (refine seq_off (a' := ?_) rfl ?_ ?_ ?_; rotate_left 1; (· rfl); (· go_simp; first | done | with_reducible rfl))
   first | (refine seq_val (v := ?_) (a' := ?_) rfl ?_ ?_ ?_ ?_; rotate_left 2; (· rfl); (· intro w0 hS; go_simp; first | done | with_reducible rfl); (· go_simp; first | done | with_reducible rfl)) | (refine seq_off (a' := ?_) rfl ?_ ?_ ?_; rotate_left 1; (· rfl); (· go_simp; first | done | with_reducible rfl))
   first | (refine seq_val (v := ?_) (a' := ?_) rfl ?_ ?_ ?_ ?_; rotate_left 2; (· rfl); (· intro w0 hS; go_simp; first | done | with_reducible rfl); (· go_simp; first | done | with_reducible rfl)) | (refine seq_off (a' := ?_) rfl ?_ ?_ ?_; rotate_left 1; (· rfl); (· go_simp; first | done | with_reducible rfl))
   first | (refine seq_val (v := ?_) (a' := ?_) rfl ?_ ?_ ?_ ?_; rotate_left 2; (· rfl); (· intro w0 hS; go_simp; first | done | with_reducible rfl); (· go_simp; first | done | with_reducible rfl)) | (refine seq_off (a' := ?_) rfl ?_ ?_ ?_; rotate_left 1; (· rfl); (· go_simp; first | done | with_reducible rfl))
   refine seq_nil ?_
   go_wp2_with (fail)
   go_ret
   exact ⟨rfl, T.2.2.2.out⟩
set_option maxHeartbeats 8000000 in
set_option maxRecDepth 100000 in
theorem encodes_no (m : Msg) (h : ¬ Right m) (w : World) : Calls Try.prog 3 #[m.v] w fun e w' => e = .returned (.bool true) ∧ Below w.heap.size w w' := by
 have HR := Aside0.mk h
 have HRT : Aside0 (wire_Right.f 20 m.k m.a m.s m.b m.p m.q m.n m.t m.i m.y m.d m.m = some false) := ⟨(right_f m 19).2 h⟩
 have HEN : Aside0 (wire_Encode.f 20 m.k m.a m.s m.b m.p m.q m.n m.t m.i m.y m.d m.m = some ([] : List Int)) := ⟨encode_no m h⟩
 clear h
 go_enter Try.func3, Try.ntmps3
 unfold Msg.v
 go_wp2_with (fail)
 refine (to_ _ _ _ _ _ _ _ _ _ _ _ _ _).mono ?_
 rintro e w1 ⟨rfl, hb⟩
 have B1 := Aside0.mk (blk_below (new_at w (.cells #[.int .i64 m.k, .int .i64 m.a, .int .i64 m.s, .bool m.b, .int .i64 m.p, .int .i64 m.q, .int .i64 m.n, .int .i64 m.t, .int .i64 m.i, .int .i64 m.y, .int .i64 m.d, .int .i64 m.m] 25) _ rfl) hb)
 have HB := Aside0.mk (below_step ((Below.refl w.heap.size w).alloc (Nat.le_refl _) (.cells #[.int .i64 m.k, .int .i64 m.a, .int .i64 m.s, .bool m.b, .int .i64 m.p, .int .i64 m.q, .int .i64 m.n, .int .i64 m.t, .int .i64 m.i, .int .i64 m.y, .int .i64 m.d, .int .i64 m.m] 25)) hb)
 clear hb
 go_wp2_with (fail)
 refine (wire_Encode.calls 20 m.k m.a m.s m.b m.p m.q m.n m.t m.i m.y m.d m.m _ _ HEN.out).mono ?_
 rintro e w2 ⟨v, rfl, ho, hb⟩
 obtain ⟨A2, c2, rfl, hc2, hC2⟩ := Kd.R_reads ho
 have HC := Aside0.mk hC2
 have B2 := Aside0.mk (blk_below B1.out hb)
 have HB2 := Aside0.mk (below_step HB.out hb)
 clear ho hb hC2 B1 HB
 go_wp2_with (fail)
 refine (decode_ A2 c2 ([] : List Int) _ HC.out hc2 (fun x hx => by cases hx) (by decide)).mono ?_
 rintro e w3 ⟨hd, hb⟩
 have he := hd.no dec_nil
 subst he
 have HC3 := Aside0.mk (Kd.C_below HC.out hb)
 have B3 := Aside0.mk (blk_below B2.out hb)
 have HB3 := Aside0.mk (below_step HB2.out hb)
 clear hd hb HC B2 HB2
 unfold Msg.v zero
 simp only [List.length_nil]
 go_wp2_with (fail)
 have T : (fun w' => Aside0 (w'.heap[w.heap.size]? = some (.cells #[.int .i64 m.k, .int .i64 m.a, .int .i64 m.s, .bool m.b, .int .i64 m.p, .int .i64 m.q, .int .i64 m.n, .int .i64 m.t, .int .i64 m.i, .int .i64 m.y, .int .i64 m.d, .int .i64 m.m] 25)) ∧ Aside0 (w'.heap[w3.heap.size]? = some (.cells #[.int .i64 0, .int .i64 0, .int .i64 0, .bool false, .int .i64 0, .int .i64 0, .int .i64 0, .int .i64 0, .int .i64 0, .int .i64 0, .int .i64 0, .int .i64 0] 30)) ∧ Aside0 (Kd.C (Kd.int .u8) w' A2 0 ([] : List Int)) ∧ Aside0 (Below w.heap.size w w')) (World.drew (w3.alloc (.cells #[.int .i64 0, .int .i64 0, .int .i64 0, .bool false, .int .i64 0, .int .i64 0, .int .i64 0, .int .i64 0, .int .i64 0, .int .i64 0, .int .i64 0, .int .i64 0] 30))) := ⟨⟨blk_drew (blk_alloc B3.out _)⟩, ⟨blk_drew (new_at w3 _ _ rfl)⟩, ⟨Kd.C_alloc HC3.out (.cells #[.int .i64 0, .int .i64 0, .int .i64 0, .bool false, .int .i64 0, .int .i64 0, .int .i64 0, .int .i64 0, .int .i64 0, .int .i64 0, .int .i64 0, .int .i64 0] 30)⟩, ⟨(HB3.out.alloc (below_size HB3.out) _).drew⟩⟩
 clear B3 HC3 HB3
 refine wp_region_seq (fun w' => Aside0 (w'.heap[w.heap.size]? = some (.cells #[.int .i64 m.k, .int .i64 m.a, .int .i64 m.s, .bool m.b, .int .i64 m.p, .int .i64 m.q, .int .i64 m.n, .int .i64 m.t, .int .i64 m.i, .int .i64 m.y, .int .i64 m.d, .int .i64 m.m] 25)) ∧ Aside0 (w'.heap[w3.heap.size]? = some (.cells #[.int .i64 0, .int .i64 0, .int .i64 0, .bool false, .int .i64 0, .int .i64 0, .int .i64 0, .int .i64 0, .int .i64 0, .int .i64 0, .int .i64 0, .int .i64 0] 30)) ∧ Aside0 (Kd.C (Kd.int .u8) w' A2 0 ([] : List Int)) ∧ Aside0 (Below w.heap.size w w')) [0, 4, 5, 7, 14, 15, 23] [0, 1, 2, 3, 6, 4, 5, 7, 8, 9, 10, 11, 12, 13, 14, 15, 16, 17, 18, 19, 20, 21, 22, 23, 24, 25] (by kernel_rfl) (by kernel_rfl) (by kernel_rfl) (by kernel_rfl) (by kernel_rfl) (fun _ _ d _ _ h => by cases d <;> exact h) ?h0 ?hseq
 case h0 => exact T
 case hseq =>
  refine seq_op rfl (by kernel_rfl) (by rfl) (fun K hK => ?_)
  go_simp
  go_at_call 18
  refine (told _).mono ?_
  rintro e u2 ⟨rfl, hb⟩
  obtain ⟨s0, s1, s2, s3⟩ := T
  have T : (fun w' => Aside0 (w'.heap[w.heap.size]? = some (.cells #[.int .i64 m.k, .int .i64 m.a, .int .i64 m.s, .bool m.b, .int .i64 m.p, .int .i64 m.q, .int .i64 m.n, .int .i64 m.t, .int .i64 m.i, .int .i64 m.y, .int .i64 m.d, .int .i64 m.m] 25)) ∧ Aside0 (w'.heap[w3.heap.size]? = some (.cells #[.int .i64 0, .int .i64 0, .int .i64 0, .bool false, .int .i64 0, .int .i64 0, .int .i64 0, .int .i64 0, .int .i64 0, .int .i64 0, .int .i64 0, .int .i64 0] 30)) ∧ Aside0 (Kd.C (Kd.int .u8) w' A2 0 ([] : List Int)) ∧ Aside0 (Below w.heap.size w w')) u2 := ⟨⟨blk_below s0.out hb⟩, ⟨blk_below s1.out hb⟩, ⟨Kd.C_below s2.out hb⟩, ⟨below_step s3.out hb⟩⟩
  refine hK _ _ T ?_
  clear hK K hb s0 s1 s2 s3
  first | (refine seq_val (v := ?_) (a' := ?_) rfl ?_ ?_ ?_ ?_; rotate_left 2; (· rfl); (· intro w0 hS; go_simp; first | done | with_reducible rfl); (· go_simp; first | done | with_reducible rfl)) | (refine seq_off (a' := ?_) rfl ?_ ?_ ?_; rotate_left 1; (· rfl); (· go_simp; first | done | with_reducible rfl))
  first | (refine seq_val (v := ?_) (a' := ?_) rfl ?_ ?_ ?_ ?_; rotate_left 2; (· rfl); (· intro w0 hS; go_simp; first | done | with_reducible rfl); (· go_simp; first | done | with_reducible rfl)) | (refine seq_off (a' := ?_) rfl ?_ ?_ ?_; rotate_left 1; (· rfl); (· go_simp; first | done | with_reducible rfl))
  first | (refine seq_val (v := ?_) (a' := ?_) rfl ?_ ?_ ?_ ?_; rotate_left 2; (· rfl); (· intro w0 hS; obtain ⟨s0, s1, s2, s3⟩ := hS; have x0 := (blk_cell s0.out 0).trans rfl; have x1 := (blk_cell s0.out 1).trans rfl; have x2 := (blk_cell s0.out 2).trans rfl; have x3 := (blk_cell s0.out 3).trans rfl; have x4 := (blk_cell s0.out 4).trans rfl; have x5 := (blk_cell s0.out 5).trans rfl; have x6 := (blk_cell s0.out 6).trans rfl; have x7 := (blk_cell s0.out 7).trans rfl; have x8 := (blk_cell s0.out 8).trans rfl; have x9 := (blk_cell s0.out 9).trans rfl; have x10 := (blk_cell s0.out 10).trans rfl; have x11 := (blk_cell s0.out 11).trans rfl; go_simp; first | done | with_reducible rfl); (· go_simp; first | done | with_reducible rfl)) | (refine seq_off (a' := ?_) rfl ?_ ?_ ?_; rotate_left 1; (· rfl); (· go_simp; first | done | with_reducible rfl))
  first | (refine seq_val (v := ?_) (a' := ?_) rfl ?_ ?_ ?_ ?_; rotate_left 2; (· rfl); (· intro w0 hS; obtain ⟨s0, s1, s2, s3⟩ := hS; have x0 := (blk_cell s0.out 0).trans rfl; have x1 := (blk_cell s0.out 1).trans rfl; have x2 := (blk_cell s0.out 2).trans rfl; have x3 := (blk_cell s0.out 3).trans rfl; have x4 := (blk_cell s0.out 4).trans rfl; have x5 := (blk_cell s0.out 5).trans rfl; have x6 := (blk_cell s0.out 6).trans rfl; have x7 := (blk_cell s0.out 7).trans rfl; have x8 := (blk_cell s0.out 8).trans rfl; have x9 := (blk_cell s0.out 9).trans rfl; have x10 := (blk_cell s0.out 10).trans rfl; have x11 := (blk_cell s0.out 11).trans rfl; go_simp; first | done | with_reducible rfl); (· go_simp; first | done | with_reducible rfl)) | (refine seq_off (a' := ?_) rfl ?_ ?_ ?_; rotate_left 1; (· rfl); (· go_simp; first | done | with_reducible rfl))
  refine seq_op rfl (by kernel_rfl) (by rfl) (fun K hK => ?_)
  go_simp
  go_at_call 16
  refine (to_ _ _ _ _ _ _ _ _ _ _ _ _ _ ).mono ?_
  rintro e u3 ⟨rfl, hb⟩
  obtain ⟨s0, s1, s2, s3⟩ := T
  have T : (fun w' => Aside0 (w'.heap[w.heap.size]? = some (.cells #[.int .i64 m.k, .int .i64 m.a, .int .i64 m.s, .bool m.b, .int .i64 m.p, .int .i64 m.q, .int .i64 m.n, .int .i64 m.t, .int .i64 m.i, .int .i64 m.y, .int .i64 m.d, .int .i64 m.m] 25)) ∧ Aside0 (w'.heap[w3.heap.size]? = some (.cells #[.int .i64 0, .int .i64 0, .int .i64 0, .bool false, .int .i64 0, .int .i64 0, .int .i64 0, .int .i64 0, .int .i64 0, .int .i64 0, .int .i64 0, .int .i64 0] 30)) ∧ Aside0 (Kd.C (Kd.int .u8) w' A2 0 ([] : List Int)) ∧ Aside0 (Below w.heap.size w w')) u3 := ⟨⟨blk_below s0.out hb⟩, ⟨blk_below s1.out hb⟩, ⟨Kd.C_below s2.out hb⟩, ⟨below_step s3.out hb⟩⟩
  refine hK _ _ T ?_
  clear hK K hb s0 s1 s2 s3
  refine seq_op rfl (by kernel_rfl) (by rfl) (fun K hK => ?_)
  go_simp
  go_at_call 19
  refine (wire_Right.calls 20 m.k m.a m.s m.b m.p m.q m.n m.t m.i m.y m.d m.m false _ HRT.out).mono ?_
  rintro e u4 ⟨rfl, hb⟩
  obtain ⟨s0, s1, s2, s3⟩ := T
  have T : (fun w' => Aside0 (w'.heap[w.heap.size]? = some (.cells #[.int .i64 m.k, .int .i64 m.a, .int .i64 m.s, .bool m.b, .int .i64 m.p, .int .i64 m.q, .int .i64 m.n, .int .i64 m.t, .int .i64 m.i, .int .i64 m.y, .int .i64 m.d, .int .i64 m.m] 25)) ∧ Aside0 (w'.heap[w3.heap.size]? = some (.cells #[.int .i64 0, .int .i64 0, .int .i64 0, .bool false, .int .i64 0, .int .i64 0, .int .i64 0, .int .i64 0, .int .i64 0, .int .i64 0, .int .i64 0, .int .i64 0] 30)) ∧ Aside0 (Kd.C (Kd.int .u8) w' A2 0 ([] : List Int)) ∧ Aside0 (Below w.heap.size w w')) u4 := ⟨⟨blk_below s0.out hb⟩, ⟨blk_below s1.out hb⟩, ⟨Kd.C_below s2.out hb⟩, ⟨below_step s3.out hb⟩⟩
  refine hK _ _ T ?_
  clear hK K hb s0 s1 s2 s3
  refine seq_op rfl (by kernel_rfl) (by rfl) (fun K hK => ?_)
  go_simp
  go_at_call 20
  refine (rright_ m _).mono ?_
  rintro e u5 ⟨hrr, hb⟩
  obtain ⟨r, rfl, hr⟩ := hrr
  obtain rfl : r = false := by cases r with | false => rfl | true => exact (HR.out (hr.1 rfl)).elim
  clear hr
  obtain ⟨s0, s1, s2, s3⟩ := T
  have T : (fun w' => Aside0 (w'.heap[w.heap.size]? = some (.cells #[.int .i64 m.k, .int .i64 m.a, .int .i64 m.s, .bool m.b, .int .i64 m.p, .int .i64 m.q, .int .i64 m.n, .int .i64 m.t, .int .i64 m.i, .int .i64 m.y, .int .i64 m.d, .int .i64 m.m] 25)) ∧ Aside0 (w'.heap[w3.heap.size]? = some (.cells #[.int .i64 0, .int .i64 0, .int .i64 0, .bool false, .int .i64 0, .int .i64 0, .int .i64 0, .int .i64 0, .int .i64 0, .int .i64 0, .int .i64 0, .int .i64 0] 30)) ∧ Aside0 (Kd.C (Kd.int .u8) w' A2 0 ([] : List Int)) ∧ Aside0 (Below w.heap.size w w')) u5 := ⟨⟨blk_below s0.out hb⟩, ⟨blk_below s1.out hb⟩, ⟨Kd.C_below s2.out hb⟩, ⟨below_step s3.out hb⟩⟩
  refine hK _ _ T ?_
  clear hK K hb s0 s1 s2 s3
  first | (refine seq_val (v := ?_) (a' := ?_) rfl ?_ ?_ ?_ ?_; rotate_left 2; (· rfl); (· intro w0 hS; go_simp; first | done | with_reducible rfl); (· go_simp; first | done | with_reducible rfl)) | (refine seq_off (a' := ?_) rfl ?_ ?_ ?_; rotate_left 1; (· rfl); (· go_simp; first | done | with_reducible rfl))
  first | (refine seq_val (v := ?_) (a' := ?_) rfl ?_ ?_ ?_ ?_; rotate_left 2; (· rfl); (· intro w0 hS; go_simp; first | done | with_reducible rfl); (· go_simp; first | done | with_reducible rfl)) | (refine seq_off (a' := ?_) rfl ?_ ?_ ?_; rotate_left 1; (· rfl); (· go_simp; first | done | with_reducible rfl))
  first | (refine seq_val (v := ?_) (a' := ?_) rfl ?_ ?_ ?_ ?_; rotate_left 2; (· rfl); (· intro w0 hS; go_simp; first | done | with_reducible rfl); (· go_simp; first | done | with_reducible rfl)) | (refine seq_off (a' := ?_) rfl ?_ ?_ ?_; rotate_left 1; (· rfl); (· go_simp; first | done | with_reducible rfl))
  first | (refine seq_val (v := ?_) (a' := ?_) rfl ?_ ?_ ?_ ?_; rotate_left 2; (· rfl); (· intro w0 hS; go_simp; first | done | with_reducible rfl); (· go_simp; first | done | with_reducible rfl)) | (refine seq_off (a' := ?_) rfl ?_ ?_ ?_; rotate_left 1; (· rfl); (· go_simp; first | done | with_reducible rfl))
  first | (refine seq_val (v := ?_) (a' := ?_) rfl ?_ ?_ ?_ ?_; rotate_left 2; (· rfl); (· intro w0 hS; obtain ⟨s0, s1, s2, s3⟩ := hS; have hs := Kd.C_string (c := c2) Try.underlying26 Try.underlying5 Try.underlying9 s2.out; go_simp; first | done | with_reducible rfl); (· go_simp; first | done | with_reducible rfl)) | (refine seq_off (a' := ?_) rfl ?_ ?_ ?_; rotate_left 1; (· rfl); (· go_simp; first | done | with_reducible rfl))
  first | (refine seq_val (v := ?_) (a' := ?_) rfl ?_ ?_ ?_ ?_; rotate_left 2; (· rfl); (· intro w0 hS; obtain ⟨s0, s1, s2, s3⟩ := hS; have x0 := (blk_cell s0.out 0).trans rfl; have x1 := (blk_cell s0.out 1).trans rfl; have x2 := (blk_cell s0.out 2).trans rfl; have x3 := (blk_cell s0.out 3).trans rfl; have x4 := (blk_cell s0.out 4).trans rfl; have x5 := (blk_cell s0.out 5).trans rfl; have x6 := (blk_cell s0.out 6).trans rfl; have x7 := (blk_cell s0.out 7).trans rfl; have x8 := (blk_cell s0.out 8).trans rfl; have x9 := (blk_cell s0.out 9).trans rfl; have x10 := (blk_cell s0.out 10).trans rfl; have x11 := (blk_cell s0.out 11).trans rfl; go_simp; first | done | with_reducible rfl); (· go_simp; first | done | with_reducible rfl)) | (refine seq_off (a' := ?_) rfl ?_ ?_ ?_; rotate_left 1; (· rfl); (· go_simp; first | done | with_reducible rfl))
  refine seq_op rfl (by kernel_rfl) (by rfl) (fun K hK => ?_)
  go_simp
  go_at_call 21
  refine (renc_no m HR.out _).mono ?_
  rintro e u1 ⟨rfl, hb⟩
  obtain ⟨s0, s1, s2, s3⟩ := T
  have T : (fun w' => Aside0 (w'.heap[w.heap.size]? = some (.cells #[.int .i64 m.k, .int .i64 m.a, .int .i64 m.s, .bool m.b, .int .i64 m.p, .int .i64 m.q, .int .i64 m.n, .int .i64 m.t, .int .i64 m.i, .int .i64 m.y, .int .i64 m.d, .int .i64 m.m] 25)) ∧ Aside0 (w'.heap[w3.heap.size]? = some (.cells #[.int .i64 0, .int .i64 0, .int .i64 0, .bool false, .int .i64 0, .int .i64 0, .int .i64 0, .int .i64 0, .int .i64 0, .int .i64 0, .int .i64 0, .int .i64 0] 30)) ∧ Aside0 (Kd.C (Kd.int .u8) w' A2 0 ([] : List Int)) ∧ Aside0 (Below w.heap.size w w')) u1 := ⟨⟨blk_below s0.out hb⟩, ⟨blk_below s1.out hb⟩, ⟨Kd.C_below s2.out hb⟩, ⟨below_step s3.out hb⟩⟩
  refine hK _ _ T ?_
  clear hK K hb s0 s1 s2 s3
  refine seq_op rfl (by kernel_rfl) (by rfl) (fun K hK => ?_)
  have hs := Kd.C_string (c := 0) (xs := []) (A := none) (n := 0) (w := u1) Try.underlying26 Try.underlying5 Try.underlying9 ⟨rfl, by decide, fun h => absurd h (by decide)⟩
  go_simp
  refine hK _ _ T ?_
  clear hK K
  first | (refine seq_val (v := ?_) (a' := ?_) rfl ?_ ?_ ?_ ?_; rotate_left 2; (· rfl); (· intro w0 hS; go_simp; first | done | with_reducible rfl); (· go_simp; first | done | with_reducible rfl)) | (refine seq_off (a' := ?_) rfl ?_ ?_ ?_; rotate_left 1; (· rfl); (· go_simp; first | done | with_reducible rfl))
  first | (refine seq_val (v := ?_) (a' := ?_) rfl ?_ ?_ ?_ ?_; rotate_left 2; (· rfl); (· intro w0 hS; go_simp; first | done | with_reducible rfl); (· go_simp; first | done | with_reducible rfl)) | (refine seq_off (a' := ?_) rfl ?_ ?_ ?_; rotate_left 1; (· rfl); (· go_simp; first | done | with_reducible rfl))
  first | (refine seq_val (v := ?_) (a' := ?_) rfl ?_ ?_ ?_ ?_; rotate_left 2; (· rfl); (· intro w0 hS; go_simp; first | done | with_reducible rfl); (· go_simp; first | done | with_reducible rfl)) | (refine seq_off (a' := ?_) rfl ?_ ?_ ?_; rotate_left 1; (· rfl); (· go_simp; first | done | with_reducible rfl))
  first | (refine seq_val (v := ?_) (a' := ?_) rfl ?_ ?_ ?_ ?_; rotate_left 2; (· rfl); (· intro w0 hS; go_simp; first | done | with_reducible rfl); (· go_simp; first | done | with_reducible rfl)) | (refine seq_off (a' := ?_) rfl ?_ ?_ ?_; rotate_left 1; (· rfl); (· go_simp; first | done | with_reducible rfl))
  first | (refine seq_val (v := ?_) (a' := ?_) rfl ?_ ?_ ?_ ?_; rotate_left 2; (· rfl); (· intro w0 hS; go_simp; first | done | with_reducible rfl); (· go_simp; first | done | with_reducible rfl)) | (refine seq_off (a' := ?_) rfl ?_ ?_ ?_; rotate_left 1; (· rfl); (· go_simp; first | done | with_reducible rfl))
  first | (refine seq_val (v := ?_) (a' := ?_) rfl ?_ ?_ ?_ ?_; rotate_left 2; (· rfl); (· intro w0 hS; go_simp; first | done | with_reducible rfl); (· go_simp; first | done | with_reducible rfl)) | (refine seq_off (a' := ?_) rfl ?_ ?_ ?_; rotate_left 1; (· rfl); (· go_simp; first | done | with_reducible rfl))
  first | (refine seq_val (v := ?_) (a' := ?_) rfl ?_ ?_ ?_ ?_; rotate_left 2; (· rfl); (· intro w0 hS; obtain ⟨s0, s1, s2, s3⟩ := hS; have x0 := (blk_cell s0.out 0).trans rfl; have x1 := (blk_cell s0.out 1).trans rfl; have x2 := (blk_cell s0.out 2).trans rfl; have x3 := (blk_cell s0.out 3).trans rfl; have x4 := (blk_cell s0.out 4).trans rfl; have x5 := (blk_cell s0.out 5).trans rfl; have x6 := (blk_cell s0.out 6).trans rfl; have x7 := (blk_cell s0.out 7).trans rfl; have x8 := (blk_cell s0.out 8).trans rfl; have x9 := (blk_cell s0.out 9).trans rfl; have x10 := (blk_cell s0.out 10).trans rfl; have x11 := (blk_cell s0.out 11).trans rfl; go_simp; first | done | with_reducible rfl); (· go_simp; first | done | with_reducible rfl)) | (refine seq_off (a' := ?_) rfl ?_ ?_ ?_; rotate_left 1; (· rfl); (· go_simp; first | done | with_reducible rfl))
  refine seq_op rfl (by kernel_rfl) (by rfl) (fun K hK => ?_)
  go_simp
  go_at_call 20
  refine (rright_ m _).mono ?_
  rintro e u6 ⟨hrr, hb⟩
  obtain ⟨r, rfl, hr⟩ := hrr
  obtain rfl : r = false := by cases r with | false => rfl | true => exact (HR.out (hr.1 rfl)).elim
  clear hr
  obtain ⟨s0, s1, s2, s3⟩ := T
  have T : (fun w' => Aside0 (w'.heap[w.heap.size]? = some (.cells #[.int .i64 m.k, .int .i64 m.a, .int .i64 m.s, .bool m.b, .int .i64 m.p, .int .i64 m.q, .int .i64 m.n, .int .i64 m.t, .int .i64 m.i, .int .i64 m.y, .int .i64 m.d, .int .i64 m.m] 25)) ∧ Aside0 (w'.heap[w3.heap.size]? = some (.cells #[.int .i64 0, .int .i64 0, .int .i64 0, .bool false, .int .i64 0, .int .i64 0, .int .i64 0, .int .i64 0, .int .i64 0, .int .i64 0, .int .i64 0, .int .i64 0] 30)) ∧ Aside0 (Kd.C (Kd.int .u8) w' A2 0 ([] : List Int)) ∧ Aside0 (Below w.heap.size w w')) u6 := ⟨⟨blk_below s0.out hb⟩, ⟨blk_below s1.out hb⟩, ⟨Kd.C_below s2.out hb⟩, ⟨below_step s3.out hb⟩⟩
  refine hK _ _ T ?_
  clear hK K hb s0 s1 s2 s3
  first | (refine seq_val (v := ?_) (a' := ?_) rfl ?_ ?_ ?_ ?_; rotate_left 2; (· rfl); (· intro w0 hS; go_simp; first | done | with_reducible rfl); (· go_simp; first | done | with_reducible rfl)) | (refine seq_off (a' := ?_) rfl ?_ ?_ ?_; rotate_left 1; (· rfl); (· go_simp; first | done | with_reducible rfl))
  first | (refine seq_val (v := ?_) (a' := ?_) rfl ?_ ?_ ?_ ?_; rotate_left 2; (· rfl); (· intro w0 hS; go_simp; first | done | with_reducible rfl); (· go_simp; first | done | with_reducible rfl)) | (refine seq_off (a' := ?_) rfl ?_ ?_ ?_; rotate_left 1; (· rfl); (· go_simp; first | done | with_reducible rfl))
  refine seq_nil ?_
  clear hs
  go_wp2_with (fail)
  obtain ⟨s0, s1, s2, s3⟩ := T
  have T : (fun w' => Aside0 (w'.heap[w.heap.size]? = some (.cells #[.int .i64 m.k, .int .i64 m.a, .int .i64 m.s, .bool m.b, .int .i64 m.p, .int .i64 m.q, .int .i64 m.n, .int .i64 m.t, .int .i64 m.i, .int .i64 m.y, .int .i64 m.d, .int .i64 m.m] 25)) ∧ Aside0 (w'.heap[w3.heap.size]? = some (.cells #[.int .i64 0, .int .i64 0, .int .i64 0, .bool false, .int .i64 0, .int .i64 0, .int .i64 0, .int .i64 0, .int .i64 0, .int .i64 0, .int .i64 0, .int .i64 0] 30)) ∧ Aside0 (Kd.C (Kd.int .u8) w' A2 0 ([] : List Int)) ∧ Aside0 (Below w.heap.size w w')) (World.drew u6) := ⟨⟨blk_drew s0.out⟩, ⟨blk_drew s1.out⟩, ⟨s2.out⟩, ⟨s3.out.drew⟩⟩
  clear s0 s1 s2 s3
  refine wp_region_seq (fun w' => Aside0 (w'.heap[w.heap.size]? = some (.cells #[.int .i64 m.k, .int .i64 m.a, .int .i64 m.s, .bool m.b, .int .i64 m.p, .int .i64 m.q, .int .i64 m.n, .int .i64 m.t, .int .i64 m.i, .int .i64 m.y, .int .i64 m.d, .int .i64 m.m] 25)) ∧ Aside0 (w'.heap[w3.heap.size]? = some (.cells #[.int .i64 0, .int .i64 0, .int .i64 0, .bool false, .int .i64 0, .int .i64 0, .int .i64 0, .int .i64 0, .int .i64 0, .int .i64 0, .int .i64 0, .int .i64 0] 30)) ∧ Aside0 (Kd.C (Kd.int .u8) w' A2 0 ([] : List Int)) ∧ Aside0 (Below w.heap.size w w')) [9] [0, 1, 2, 3, 4, 5, 6, 7, 8, 9, 10, 11, 12, 13, 14, 15, 16, 17, 18] (by kernel_rfl) (by kernel_rfl) (by kernel_rfl) (by kernel_rfl) (by kernel_rfl) (fun _ _ d _ _ h => by cases d <;> exact h) ?h0 ?hseq
  case h0 => exact T
  case hseq =>
   first | (refine seq_val (v := ?_) (a' := ?_) rfl ?_ ?_ ?_ ?_; rotate_left 2; (· rfl); (· intro w0 hS; go_simp; first | done | with_reducible rfl); (· go_simp; first | done | with_reducible rfl)) | (refine seq_off (a' := ?_) rfl ?_ ?_ ?_; rotate_left 1; (· rfl); (· go_simp; first | done | with_reducible rfl))
   first | (refine seq_val (v := ?_) (a' := ?_) rfl ?_ ?_ ?_ ?_; rotate_left 2; (· rfl); (· intro w0 hS; go_simp; first | done | with_reducible rfl); (· go_simp; first | done | with_reducible rfl)) | (refine seq_off (a' := ?_) rfl ?_ ?_ ?_; rotate_left 1; (· rfl); (· go_simp; first | done | with_reducible rfl))
   first | (refine seq_val (v := ?_) (a' := ?_) rfl ?_ ?_ ?_ ?_; rotate_left 2; (· rfl); (· intro w0 hS; go_simp; first | done | with_reducible rfl); (· go_simp; first | done | with_reducible rfl)) | (refine seq_off (a' := ?_) rfl ?_ ?_ ?_; rotate_left 1; (· rfl); (· go_simp; first | done | with_reducible rfl))
   first | (refine seq_val (v := ?_) (a' := ?_) rfl ?_ ?_ ?_ ?_; rotate_left 2; (· rfl); (· intro w0 hS; go_simp; first | done | with_reducible rfl); (· go_simp; first | done | with_reducible rfl)) | (refine seq_off (a' := ?_) rfl ?_ ?_ ?_; rotate_left 1; (· rfl); (· go_simp; first | done | with_reducible rfl))
   first | (refine seq_val (v := ?_) (a' := ?_) rfl ?_ ?_ ?_ ?_; rotate_left 2; (· rfl); (· intro w0 hS; go_simp; first | done | with_reducible rfl); (· go_simp; first | done | with_reducible rfl)) | (refine seq_off (a' := ?_) rfl ?_ ?_ ?_; rotate_left 1; (· rfl); (· go_simp; first | done | with_reducible rfl))
   first | (refine seq_val (v := ?_) (a' := ?_) rfl ?_ ?_ ?_ ?_; rotate_left 2; (· rfl); (· intro w0 hS; go_simp; first | done | with_reducible rfl); (· go_simp; first | done | with_reducible rfl)) | (refine seq_off (a' := ?_) rfl ?_ ?_ ?_; rotate_left 1; (· rfl); (· go_simp; first | done | with_reducible rfl))
   first | (refine seq_val (v := ?_) (a' := ?_) rfl ?_ ?_ ?_ ?_; rotate_left 2; (· rfl); (· intro w0 hS; go_simp; first | done | with_reducible rfl); (· go_simp; first | done | with_reducible rfl)) | (refine seq_off (a' := ?_) rfl ?_ ?_ ?_; rotate_left 1; (· rfl); (· go_simp; first | done | with_reducible rfl))
   first | (refine seq_val (v := ?_) (a' := ?_) rfl ?_ ?_ ?_ ?_; rotate_left 2; (· rfl); (· intro w0 hS; obtain ⟨s0, s1, s2, s3⟩ := hS; have x0 := (blk_cell s1.out 0).trans rfl; have x1 := (blk_cell s1.out 1).trans rfl; have x2 := (blk_cell s1.out 2).trans rfl; have x3 := (blk_cell s1.out 3).trans rfl; have x4 := (blk_cell s1.out 4).trans rfl; have x5 := (blk_cell s1.out 5).trans rfl; have x6 := (blk_cell s1.out 6).trans rfl; have x7 := (blk_cell s1.out 7).trans rfl; have x8 := (blk_cell s1.out 8).trans rfl; have x9 := (blk_cell s1.out 9).trans rfl; have x10 := (blk_cell s1.out 10).trans rfl; have x11 := (blk_cell s1.out 11).trans rfl; go_simp; first | done | with_reducible rfl); (· go_simp; first | done | with_reducible rfl)) | (refine seq_off (a' := ?_) rfl ?_ ?_ ?_; rotate_left 1; (· rfl); (· go_simp; first | done | with_reducible rfl))
   first | (refine seq_val (v := ?_) (a' := ?_) rfl ?_ ?_ ?_ ?_; rotate_left 2; (· rfl); (· intro w0 hS; obtain ⟨s0, s1, s2, s3⟩ := hS; have x0 := (blk_cell s0.out 0).trans rfl; have x1 := (blk_cell s0.out 1).trans rfl; have x2 := (blk_cell s0.out 2).trans rfl; have x3 := (blk_cell s0.out 3).trans rfl; have x4 := (blk_cell s0.out 4).trans rfl; have x5 := (blk_cell s0.out 5).trans rfl; have x6 := (blk_cell s0.out 6).trans rfl; have x7 := (blk_cell s0.out 7).trans rfl; have x8 := (blk_cell s0.out 8).trans rfl; have x9 := (blk_cell s0.out 9).trans rfl; have x10 := (blk_cell s0.out 10).trans rfl; have x11 := (blk_cell s0.out 11).trans rfl; go_simp; first | done | with_reducible rfl); (· go_simp; first | done | with_reducible rfl)) | (refine seq_off (a' := ?_) rfl ?_ ?_ ?_; rotate_left 1; (· rfl); (· go_simp; first | done | with_reducible rfl))
   first | (refine seq_val (v := ?_) (a' := ?_) rfl ?_ ?_ ?_ ?_; rotate_left 2; (· rfl); (· intro w0 hS; go_simp; first | done | with_reducible rfl); (· go_simp; first | done | with_reducible rfl)) | (refine seq_off (a' := ?_) rfl ?_ ?_ ?_; rotate_left 1; (· rfl); (· go_simp; first | done | with_reducible rfl))
   first | (refine seq_val (v := ?_) (a' := ?_) rfl ?_ ?_ ?_ ?_; rotate_left 2; (· rfl); (· intro w0 hS; go_simp; first | done | with_reducible rfl); (· go_simp; first | done | with_reducible rfl)) | (refine seq_off (a' := ?_) rfl ?_ ?_ ?_; rotate_left 1; (· rfl); (· go_simp; first | done | with_reducible rfl))
   first | (refine seq_val (v := ?_) (a' := ?_) rfl ?_ ?_ ?_ ?_; rotate_left 2; (· rfl); (· intro w0 hS; go_simp; first | done | with_reducible rfl); (· go_simp; first | done | with_reducible rfl)) | (refine seq_off (a' := ?_) rfl ?_ ?_ ?_; rotate_left 1; (· rfl); (· go_simp; first | done | with_reducible rfl))
   first | (refine seq_val (v := ?_) (a' := ?_) rfl ?_ ?_ ?_ ?_; rotate_left 2; (· rfl); (· intro w0 hS; go_simp; first | done | with_reducible rfl); (· go_simp; first | done | with_reducible rfl)) | (refine seq_off (a' := ?_) rfl ?_ ?_ ?_; rotate_left 1; (· rfl); (· go_simp; first | done | with_reducible rfl))
   first | (refine seq_val (v := ?_) (a' := ?_) rfl ?_ ?_ ?_ ?_; rotate_left 2; (· rfl); (· intro w0 hS; go_simp; first | done | with_reducible rfl); (· go_simp; first | done | with_reducible rfl)) | (refine seq_off (a' := ?_) rfl ?_ ?_ ?_; rotate_left 1; (· rfl); (· go_simp; first | done | with_reducible rfl))
   first | (refine seq_val (v := ?_) (a' := ?_) rfl ?_ ?_ ?_ ?_; rotate_left 2; (· rfl); (· intro w0 hS; go_simp; first | done | with_reducible rfl); (· go_simp; first | done | with_reducible rfl)) | (refine seq_off (a' := ?_) rfl ?_ ?_ ?_; rotate_left 1; (· rfl); (· go_simp; first | done | with_reducible rfl))
   first | (refine seq_val (v := ?_) (a' := ?_) rfl ?_ ?_ ?_ ?_; rotate_left 2; (· rfl); (· intro w0 hS; go_simp; first | done | with_reducible rfl); (· go_simp; first | done | with_reducible rfl)) | (refine seq_off (a' := ?_) rfl ?_ ?_ ?_; rotate_left 1; (· rfl); (· go_simp; first | done | with_reducible rfl))
   first | (refine seq_val (v := ?_) (a' := ?_) rfl ?_ ?_ ?_ ?_; rotate_left 2; (· rfl); (· intro w0 hS; go_simp; first | done | with_reducible rfl); (· go_simp; first | done | with_reducible rfl)) | (refine seq_off (a' := ?_) rfl ?_ ?_ ?_; rotate_left 1; (· rfl); (· go_simp; first | done | with_reducible rfl))
   first | (refine seq_val (v := ?_) (a' := ?_) rfl ?_ ?_ ?_ ?_; rotate_left 2; (· rfl); (· intro w0 hS; go_simp; first | done | with_reducible rfl); (· go_simp; first | done | with_reducible rfl)) | (refine seq_off (a' := ?_) rfl ?_ ?_ ?_; rotate_left 1; (· rfl); (· go_simp; first | done | with_reducible rfl))
   first | (refine seq_val (v := ?_) (a' := ?_) rfl ?_ ?_ ?_ ?_; rotate_left 2; (· rfl); (· intro w0 hS; go_simp; first | done | with_reducible rfl); (· go_simp; first | done | with_reducible rfl)) | (refine seq_off (a' := ?_) rfl ?_ ?_ ?_; rotate_left 1; (· rfl); (· go_simp; first | done | with_reducible rfl))
   refine seq_nil ?_
   go_wp2_with (fail)
   go_ret
   exact ⟨rfl, T.2.2.2.out⟩
theorem encodes (m : Msg) (h6 : M64 m) (w : World) : Calls Try.prog 3 #[m.v] w fun e w' => e = .returned (.bool true) ∧ Below w.heap.size w w' := by
 by_cases h : Right m
 · exact encodes_yes m h ⟨h6.1.2, h6.2.1.2, h6.2.2.1.2, h6.2.2.2.1.2, h6.2.2.2.2.1.2, h6.2.2.2.2.2.2⟩ w
 · exact encodes_no m h w
end Go.Proofs.Ytgikjgekdeaneaa.Wire
