/- Wire: Fix by hand. -/
import Derived.Test.YtgikjgekdeaneaaWireF1
import Derived.StillTailTactics
import Derived.Test.YtgikjgekdeaneaaCert
namespace Go.Proofs.Ytgikjgekdeaneaa.Wire
open Go.Proofs.Ytgikjgekdeaneaa.Cert Go.RowKit Go.Proofs.Ytgikjgekdeaneaa.QWire Go.Proofs.YtgikjgekdeaneaaW.PrintWords Go.Proofs.YtgikjgekdeaneaaW.PrintLast Go.Proofs.YtgikjgekdeaneaaW.PrintMore Go.Proofs.Ytgikjgekdeaneaa.Own
set_option linter.unusedVariables false
set_option linter.unusedSimpArgs false
set_option maxRecDepth 100000 in
theorem big_ (n : Int) (h : I64 n) (w : World) : Calls Try.prog 73 #[.int .i64 n] w fun e w' => e = .returned (.int .i64 (bigV n)) ∧ w' = w := by
  unfold I64 at h
  have h1 := h.1
  have h2 := h.2
  by_cases h0 : n < 0
  · have c0 := decide_eq_true h0
    have e1 : wrap64 (n + 1) = n + 1 := i64_in _ (by omega) (by omega)
    have e2 : wrap64 (-(n + 1)) = -(n + 1) := i64_in _ (by omega) (by omega)
    have HV := Aside0.mk (show bigV n = -(n + 1) by unfold bigV; rw [if_pos h0])
    go_enter Try.func73, Try.ntmps73
    go_wp2
    go_ret
    rw [HV.out]
    exact ⟨rfl, rfl⟩
  · have c0 := decide_eq_false h0
    have HV := Aside0.mk (show bigV n = n by unfold bigV; rw [if_neg h0])
    go_enter Try.func73, Try.ntmps73
    go_wp2
    go_ret
    rw [HV.out]
    exact ⟨rfl, rfl⟩
set_option maxHeartbeats 40000000 in
set_option maxRecDepth 100000 in
theorem fix_h (k a s : Int) (b : Bool) (p q n t i y d m : Int) (h : M64 ⟨k, a, s, b, p, q, n, t, i, y, d, m⟩) (w : World) : Calls Try.prog 39 #[.agg #[.int .i64 k, .int .i64 a, .int .i64 s, .bool b, .int .i64 p, .int .i64 q, .int .i64 n, .int .i64 t, .int .i64 i, .int .i64 y, .int .i64 d, .int .i64 m]] w fun e w' => e = .returned (fixM ⟨k, a, s, b, p, q, n, t, i, y, d, m⟩).v ∧ Below w.heap.size w w' := by
  have H := Aside0.mk h
  clear h
  go_enter Try.func39, Try.ntmps39
  go_wp2
  have B1 := blk_alloc (blk_alloc (new_at w (.cells #[.int .i64 (wrap64 (Int.tmod (IntKind.u64.wrap k) 7)), .int .i64 a, .int .i64 s, .bool b, .int .i64 p, .int .i64 q, .int .i64 n, .int .i64 t, .int .i64 i, .int .i64 y, .int .i64 d, .int .i64 m] 25) _ rfl) (.cells #[.int .i64 0, .int .i64 0, .int .i64 0, .bool false, .int .i64 0, .int .i64 0, .int .i64 0, .int .i64 0, .int .i64 0, .int .i64 0, .int .i64 0, .int .i64 0] 25)) (.cells #[.int .i64 a, .int .i64 s, .bool b, .int .i64 p, .int .i64 q, .int .i64 n, .int .i64 t] 23)
  have B2 := blk_alloc (new_at (w.alloc (.cells #[.int .i64 (wrap64 (Int.tmod (IntKind.u64.wrap k) 7)), .int .i64 a, .int .i64 s, .bool b, .int .i64 p, .int .i64 q, .int .i64 n, .int .i64 t, .int .i64 i, .int .i64 y, .int .i64 d, .int .i64 m] 25)) (.cells #[.int .i64 0, .int .i64 0, .int .i64 0, .bool false, .int .i64 0, .int .i64 0, .int .i64 0, .int .i64 0, .int .i64 0, .int .i64 0, .int .i64 0, .int .i64 0] 25) (w.heap.size + 1) (size_alloc _ _).symm) (.cells #[.int .i64 a, .int .i64 s, .bool b, .int .i64 p, .int .i64 q, .int .i64 n, .int .i64 t] 23)
  have B3 := new_at ((w.alloc (.cells #[.int .i64 (wrap64 (Int.tmod (IntKind.u64.wrap k) 7)), .int .i64 a, .int .i64 s, .bool b, .int .i64 p, .int .i64 q, .int .i64 n, .int .i64 t, .int .i64 i, .int .i64 y, .int .i64 d, .int .i64 m] 25)).alloc (.cells #[.int .i64 0, .int .i64 0, .int .i64 0, .bool false, .int .i64 0, .int .i64 0, .int .i64 0, .int .i64 0, .int .i64 0, .int .i64 0, .int .i64 0, .int .i64 0] 25)) (.cells #[.int .i64 a, .int .i64 s, .bool b, .int .i64 p, .int .i64 q, .int .i64 n, .int .i64 t] 23) (w.heap.size + 1 + 1) (by rw [size_alloc, size_alloc])
  have HC : Ch none_ w (((w.alloc (.cells #[.int .i64 (wrap64 (Int.tmod (IntKind.u64.wrap k) 7)), .int .i64 a, .int .i64 s, .bool b, .int .i64 p, .int .i64 q, .int .i64 n, .int .i64 t, .int .i64 i, .int .i64 y, .int .i64 d, .int .i64 m] 25)).alloc (.cells #[.int .i64 0, .int .i64 0, .int .i64 0, .bool false, .int .i64 0, .int .i64 0, .int .i64 0, .int .i64 0, .int .i64 0, .int .i64 0, .int .i64 0, .int .i64 0] 25)).alloc (.cells #[.int .i64 a, .int .i64 s, .bool b, .int .i64 p, .int .i64 q, .int .i64 n, .int .i64 t] 23)) := (((Ch.refl _ w).alloc _).alloc _).alloc _
  generalize (((w.alloc (.cells #[.int .i64 (wrap64 (Int.tmod (IntKind.u64.wrap k) 7)), .int .i64 a, .int .i64 s, .bool b, .int .i64 p, .int .i64 q, .int .i64 n, .int .i64 t, .int .i64 i, .int .i64 y, .int .i64 d, .int .i64 m] 25)).alloc (.cells #[.int .i64 0, .int .i64 0, .int .i64 0, .bool false, .int .i64 0, .int .i64 0, .int .i64 0, .int .i64 0, .int .i64 0, .int .i64 0, .int .i64 0, .int .i64 0] 25)).alloc (.cells #[.int .i64 a, .int .i64 s, .bool b, .int .i64 p, .int .i64 q, .int .i64 n, .int .i64 t] 23)) = W at B1 B2 B3 HC ⊢
  have t0 := (blk_cell B3 0).trans rfl
  have t1 := (blk_cell B3 1).trans rfl
  have t2 := (blk_cell B3 2).trans rfl
  have t3 := (blk_cell B3 3).trans rfl
  have t4 := (blk_cell B3 4).trans rfl
  have t5 := (blk_cell B3 5).trans rfl
  have t6 := (blk_cell B3 6).trans rfl
  have u0 := (blk_cell B1 0).trans rfl
  have z0 := blk_frozen B1 0
  have u1 := (blk_cell B1 1).trans rfl
  have z1 := blk_frozen B1 1
  have u2 := (blk_cell B1 2).trans rfl
  have z2 := blk_frozen B1 2
  have u3 := (blk_cell B1 3).trans rfl
  have z3 := blk_frozen B1 3
  have u4 := (blk_cell B1 4).trans rfl
  have z4 := blk_frozen B1 4
  have u5 := (blk_cell B1 5).trans rfl
  have z5 := blk_frozen B1 5
  have u6 := (blk_cell B1 6).trans rfl
  have z6 := blk_frozen B1 6
  have u7 := (blk_cell B1 7).trans rfl
  have z7 := blk_frozen B1 7
  have u8 := (blk_cell B1 8).trans rfl
  have z8 := blk_frozen B1 8
  have u9 := (blk_cell B1 9).trans rfl
  have z9 := blk_frozen B1 9
  have u10 := (blk_cell B1 10).trans rfl
  have z10 := blk_frozen B1 10
  have u11 := (blk_cell B1 11).trans rfl
  have z11 := blk_frozen B1 11
  have HB1 := Aside0.mk B1
  have HB2 := Aside0.mk B2
  have HB3 := Aside0.mk B3
  have HHC := Aside0.mk HC
  clear B1 B2 B3 HC
  go_still_tail 26, (by kernel_rfl)
  still_call (big_ p H.out.1 _)
  repeat still_step
  still_call (big_ q H.out.2.1 _)
  repeat still_step
  still_call (big_ n H.out.2.2.1 _)
  repeat still_step
  still_call (big_ t H.out.2.2.2.1 _)
  repeat still_step
  refine wpStill_nil ?_
  go_wp2
  have B1 := blk_drew <| blk_put (cs' := #[.int .i64 (wrap64 (Int.tmod (IntKind.u64.wrap k) 7)), .int .i64 (wrap64 (Int.tmod (IntKind.u64.wrap a) 65536)), .int .i64 (wrap64 (Int.tmod (IntKind.u64.wrap s) 65536)), .bool b, .int .i64 (bigV p), .int .i64 (bigV q), .int .i64 (bigV n), .int .i64 (bigV t), .int .i64 i, .int .i64 y, .int .i64 d, .int .i64 m]) (blk_put (cs' := #[.int .i64 (wrap64 (Int.tmod (IntKind.u64.wrap k) 7)), .int .i64 (wrap64 (Int.tmod (IntKind.u64.wrap a) 65536)), .int .i64 (wrap64 (Int.tmod (IntKind.u64.wrap s) 65536)), .bool b, .int .i64 (bigV p), .int .i64 (bigV q), .int .i64 (bigV n), .int .i64 t, .int .i64 i, .int .i64 y, .int .i64 d, .int .i64 m]) (blk_put (cs' := #[.int .i64 (wrap64 (Int.tmod (IntKind.u64.wrap k) 7)), .int .i64 (wrap64 (Int.tmod (IntKind.u64.wrap a) 65536)), .int .i64 (wrap64 (Int.tmod (IntKind.u64.wrap s) 65536)), .bool b, .int .i64 (bigV p), .int .i64 (bigV q), .int .i64 n, .int .i64 t, .int .i64 i, .int .i64 y, .int .i64 d, .int .i64 m]) (blk_put (cs' := #[.int .i64 (wrap64 (Int.tmod (IntKind.u64.wrap k) 7)), .int .i64 (wrap64 (Int.tmod (IntKind.u64.wrap a) 65536)), .int .i64 (wrap64 (Int.tmod (IntKind.u64.wrap s) 65536)), .bool b, .int .i64 (bigV p), .int .i64 q, .int .i64 n, .int .i64 t, .int .i64 i, .int .i64 y, .int .i64 d, .int .i64 m]) (blk_put (cs' := #[.int .i64 (wrap64 (Int.tmod (IntKind.u64.wrap k) 7)), .int .i64 (wrap64 (Int.tmod (IntKind.u64.wrap a) 65536)), .int .i64 (wrap64 (Int.tmod (IntKind.u64.wrap s) 65536)), .bool b, .int .i64 p, .int .i64 q, .int .i64 n, .int .i64 t, .int .i64 i, .int .i64 y, .int .i64 d, .int .i64 m]) (blk_put (cs' := #[.int .i64 (wrap64 (Int.tmod (IntKind.u64.wrap k) 7)), .int .i64 (wrap64 (Int.tmod (IntKind.u64.wrap a) 65536)), .int .i64 (wrap64 (Int.tmod (IntKind.u64.wrap s) 65536)), .bool b, .int .i64 p, .int .i64 q, .int .i64 n, .int .i64 t, .int .i64 i, .int .i64 y, .int .i64 d, .int .i64 m]) (blk_put (cs' := #[.int .i64 (wrap64 (Int.tmod (IntKind.u64.wrap k) 7)), .int .i64 (wrap64 (Int.tmod (IntKind.u64.wrap a) 65536)), .int .i64 s, .bool b, .int .i64 p, .int .i64 q, .int .i64 n, .int .i64 t, .int .i64 i, .int .i64 y, .int .i64 d, .int .i64 m]) (HB1.out) 1 (.int .i64 (wrap64 (Int.tmod (IntKind.u64.wrap a) 65536))) rfl) 2 (.int .i64 (wrap64 (Int.tmod (IntKind.u64.wrap s) 65536))) rfl) 3 (.bool b) rfl) 4 (.int .i64 (bigV p)) rfl) 5 (.int .i64 (bigV q)) rfl) 6 (.int .i64 (bigV n)) rfl) 7 (.int .i64 (bigV t)) rfl
  have B2 := blk_drew <| blk_far (p := ⟨w.heap.size, 7, none⟩) (blk_far (p := ⟨w.heap.size, 6, none⟩) (blk_far (p := ⟨w.heap.size, 5, none⟩) (blk_far (p := ⟨w.heap.size, 4, none⟩) (blk_far (p := ⟨w.heap.size, 3, none⟩) (blk_far (p := ⟨w.heap.size, 2, none⟩) (blk_far (p := ⟨w.heap.size, 1, none⟩) (HB2.out) (by show w.heap.size + 1 ≠ w.heap.size; omega) (.int .i64 (wrap64 (Int.tmod (IntKind.u64.wrap a) 65536)))) (by show w.heap.size + 1 ≠ w.heap.size; omega) (.int .i64 (wrap64 (Int.tmod (IntKind.u64.wrap s) 65536)))) (by show w.heap.size + 1 ≠ w.heap.size; omega) (.bool b)) (by show w.heap.size + 1 ≠ w.heap.size; omega) (.int .i64 (bigV p))) (by show w.heap.size + 1 ≠ w.heap.size; omega) (.int .i64 (bigV q))) (by show w.heap.size + 1 ≠ w.heap.size; omega) (.int .i64 (bigV n))) (by show w.heap.size + 1 ≠ w.heap.size; omega) (.int .i64 (bigV t))
  have HC := Ch.drew <| Ch.set (p := ⟨w.heap.size, 7, none⟩) (Ch.set (p := ⟨w.heap.size, 6, none⟩) (Ch.set (p := ⟨w.heap.size, 5, none⟩) (Ch.set (p := ⟨w.heap.size, 4, none⟩) (Ch.set (p := ⟨w.heap.size, 3, none⟩) (Ch.set (p := ⟨w.heap.size, 2, none⟩) (Ch.set (p := ⟨w.heap.size, 1, none⟩) (HHC.out) (fun h => absurd h (by show ¬ w.heap.size < _; omega)) (.int .i64 (wrap64 (Int.tmod (IntKind.u64.wrap a) 65536)))) (fun h => absurd h (by show ¬ w.heap.size < _; omega)) (.int .i64 (wrap64 (Int.tmod (IntKind.u64.wrap s) 65536)))) (fun h => absurd h (by show ¬ w.heap.size < _; omega)) (.bool b)) (fun h => absurd h (by show ¬ w.heap.size < _; omega)) (.int .i64 (bigV p))) (fun h => absurd h (by show ¬ w.heap.size < _; omega)) (.int .i64 (bigV q))) (fun h => absurd h (by show ¬ w.heap.size < _; omega)) (.int .i64 (bigV n))) (fun h => absurd h (by show ¬ w.heap.size < _; omega)) (.int .i64 (bigV t))
  clear HB1 HB2 HB3 HHC t0 t1 t2 t3 t4 t5 t6 u0 z0 u1 z1 u2 z2 u3 z3 u4 z4 u5 z5 u6 z6 u7 z7 u8 z8 u9 z9 u10 z10 u11 z11
  generalize World.drew ((((((((W).setCell ⟨w.heap.size, 1, none⟩ (.int .i64 (wrap64 (Int.tmod (IntKind.u64.wrap a) 65536)))).setCell ⟨w.heap.size, 2, none⟩ (.int .i64 (wrap64 (Int.tmod (IntKind.u64.wrap s) 65536)))).setCell ⟨w.heap.size, 3, none⟩ (.bool b)).setCell ⟨w.heap.size, 4, none⟩ (.int .i64 (bigV p))).setCell ⟨w.heap.size, 5, none⟩ (.int .i64 (bigV q))).setCell ⟨w.heap.size, 6, none⟩ (.int .i64 (bigV n))).setCell ⟨w.heap.size, 7, none⟩ (.int .i64 (bigV t))) = X at B1 B2 HC ⊢
  have c8 := (blk_cell B1 8).trans rfl
  have z8 := blk_frozen B1 8
  have c9 := (blk_cell B1 9).trans rfl
  have z9 := blk_frozen B1 9
  have c10 := (blk_cell B1 10).trans rfl
  have z10 := blk_frozen B1 10
  have c11 := (blk_cell B1 11).trans rfl
  have z11 := blk_frozen B1 11
  have HB1 := Aside0.mk B1
  have HB2 := Aside0.mk B2
  have HHC := Aside0.mk HC
  clear B1 B2 HC
  go_cut [] (fun wc => Aside0 (wc.heap[w.heap.size]? = some (.cells #[.int .i64 (wrap64 (Int.tmod (IntKind.u64.wrap k) 7)), .int .i64 (wrap64 (Int.tmod (IntKind.u64.wrap a) 65536)), .int .i64 (wrap64 (Int.tmod (IntKind.u64.wrap s) 65536)), .bool b, .int .i64 (bigV p), .int .i64 (bigV q), .int .i64 (bigV n), .int .i64 (bigV t), .int .i64 (wrap64 (Int.tmod (IntKind.u64.wrap i) 4294967296)), .int .i64 (bigV y), .int .i64 (wrap64 (Int.tmod (IntKind.u64.wrap d) 65536)), .int .i64 (bigV m)] 25 (0, 0))) ∧ Aside0 (wc.heap[w.heap.size + 1]? = some (.cells #[.int .i64 0, .int .i64 0, .int .i64 0, .bool false, .int .i64 0, .int .i64 0, .int .i64 0, .int .i64 0, .int .i64 0, .int .i64 0, .int .i64 0, .int .i64 0] 25 (0, 0))) ∧ Aside0 (Ch none_ w wc))
  case first =>
    refine wp_region_cert (by kernel_rfl) [(some 38, .pointer (some ⟨w.heap.size, 8, none⟩)), (some 39, .int .i64 i), (some 40, .int .u64 (IntKind.u64.wrap i)), (some 41, .int .u64 (Int.tmod (IntKind.u64.wrap i) 4294967296)), (some 42, .int .i64 (IntKind.i64.wrap (Int.tmod (IntKind.u64.wrap i) 4294967296))), (some 43, .pointer (some ⟨w.heap.size, 10, none⟩)), (some 44, .int .i64 d), (some 45, .int .u64 (IntKind.u64.wrap d)), (some 46, .int .u64 (Int.tmod (IntKind.u64.wrap d) 65536)), (some 47, .int .i64 (IntKind.i64.wrap (Int.tmod (IntKind.u64.wrap d) 65536))), (some 48, .pointer (some ⟨w.heap.size, 9, none⟩)), (some 49, .int .i64 y), (some 50, .int .i64 (bigV y)), (some 51, .pointer (some ⟨w.heap.size, 11, none⟩)), (some 52, .int .i64 m), (some 53, .int .i64 (bigV m)), (some 54, .pointer (some ⟨w.heap.size, 8, none⟩)), (none, undef), (some 55, .pointer (some ⟨w.heap.size, 10, none⟩)), (none, undef), (some 56, .pointer (some ⟨w.heap.size, 9, none⟩)), (none, undef), (some 57, .pointer (some ⟨w.heap.size, 11, none⟩)), (none, undef)] ?aF (fun c w' => Aside0 (w'.heap[w.heap.size]? = some (.cells #[.int .i64 (wrap64 (Int.tmod (IntKind.u64.wrap k) 7)), .int .i64 (wrap64 (Int.tmod (IntKind.u64.wrap a) 65536)), .int .i64 (wrap64 (Int.tmod (IntKind.u64.wrap s) 65536)), .bool b, .int .i64 (bigV p), .int .i64 (bigV q), .int .i64 (bigV n), .int .i64 (bigV t), sl (c 17) (.int .i64 (IntKind.i64.wrap (Int.tmod (IntKind.u64.wrap i) 4294967296))) (.int .i64 i), sl (c 21) (.int .i64 (bigV y)) (.int .i64 y), sl (c 19) (.int .i64 (IntKind.i64.wrap (Int.tmod (IntKind.u64.wrap d) 65536))) (.int .i64 d), sl (c 23) (.int .i64 (bigV m)) (.int .i64 m)] 25 (0, 0))) ∧ Aside0 (w'.heap[w.heap.size + 1]? = some (.cells #[.int .i64 0, .int .i64 0, .int .i64 0, .bool false, .int .i64 0, .int .i64 0, .int .i64 0, .int .i64 0, .int .i64 0, .int .i64 0, .int .i64 0, .int .i64 0] 25 (0, 0))) ∧ Aside0 (Ch none_ w w')) (by kernel_rfl) (by kernel_rfl) (by kernel_rfl) (by kernel_rfl) (by kernel_rfl) ?hF ?h0 ?hstep ?he
    case hF => simp only [finL, Act.put]; go_simp; exact rfl
    case h0 => exact ⟨⟨blk_drew HB1.out⟩, ⟨blk_drew HB2.out⟩, ⟨Ch.drew HHC.out⟩⟩
    case hstep =>
      rintro c w' i0 hi ⟨hB, hF, hC⟩ hun hd hcl
      have hi : i0 < 24 := hi
      clear HB1 HB2 HHC c8 z8 c9 z9 c10 z10 c11 z11
      obtain rfl | rfl | rfl | rfl | rfl | rfl | rfl | rfl | rfl | rfl | rfl | rfl | rfl | rfl | rfl | rfl | rfl | rfl | rfl | rfl | rfl | rfl | rfl | rfl : i0 = 0 ∨ i0 = 1 ∨ i0 = 2 ∨ i0 = 3 ∨ i0 = 4 ∨ i0 = 5 ∨ i0 = 6 ∨ i0 = 7 ∨ i0 = 8 ∨ i0 = 9 ∨ i0 = 10 ∨ i0 = 11 ∨ i0 = 12 ∨ i0 = 13 ∨ i0 = 14 ∨ i0 = 15 ∨ i0 = 16 ∨ i0 = 17 ∨ i0 = 18 ∨ i0 = 19 ∨ i0 = 20 ∨ i0 = 21 ∨ i0 = 22 ∨ i0 = 23 := by omega
      · clear hi
        clear hun hd hcl
        refine wpOp_step rfl (fun K0 hK => ?_)
        go_simp
        exact hK _ _ ⟨by kernel_rfl, hB, hF, hC⟩
      · clear hi
        have f17 : c 17 = false := not_yet hcl (by kernel_rfl : depB _ _ 17 1 = true) hun
        have u := blk_cell hB.out 8
        rw [f17] at u
        replace u := u.trans (rfl : _ = some (Value.int .i64 i))
        clear hun hd hcl
        refine wpOp_step rfl (fun K0 hK => ?_)
        go_simp
        exact hK _ _ ⟨by kernel_rfl, hB, hF, hC⟩
      · clear hi
        clear hun hd hcl
        refine wpOp_step rfl (fun K0 hK => ?_)
        go_simp
        exact hK _ _ ⟨by kernel_rfl, hB, hF, hC⟩
      · clear hi
        clear hun hd hcl
        refine wpOp_step rfl (fun K0 hK => ?_)
        go_simp
        exact hK _ _ ⟨by kernel_rfl, hB, hF, hC⟩
      · clear hi
        clear hun hd hcl
        refine wpOp_step rfl (fun K0 hK => ?_)
        go_simp
        exact hK _ _ ⟨by kernel_rfl, hB, hF, hC⟩
      · clear hi
        clear hun hd hcl
        refine wpOp_step rfl (fun K0 hK => ?_)
        go_simp
        exact hK _ _ ⟨by kernel_rfl, hB, hF, hC⟩
      · clear hi
        have f19 : c 19 = false := not_yet hcl (by kernel_rfl : depB _ _ 19 6 = true) hun
        have u := blk_cell hB.out 10
        rw [f19] at u
        replace u := u.trans (rfl : _ = some (Value.int .i64 d))
        clear hun hd hcl
        refine wpOp_step rfl (fun K0 hK => ?_)
        go_simp
        exact hK _ _ ⟨by kernel_rfl, hB, hF, hC⟩
      · clear hi
        clear hun hd hcl
        refine wpOp_step rfl (fun K0 hK => ?_)
        go_simp
        exact hK _ _ ⟨by kernel_rfl, hB, hF, hC⟩
      · clear hi
        clear hun hd hcl
        refine wpOp_step rfl (fun K0 hK => ?_)
        go_simp
        exact hK _ _ ⟨by kernel_rfl, hB, hF, hC⟩
      · clear hi
        clear hun hd hcl
        refine wpOp_step rfl (fun K0 hK => ?_)
        go_simp
        exact hK _ _ ⟨by kernel_rfl, hB, hF, hC⟩
      · clear hi
        clear hun hd hcl
        refine wpOp_step rfl (fun K0 hK => ?_)
        go_simp
        exact hK _ _ ⟨by kernel_rfl, hB, hF, hC⟩
      · clear hi
        have f21 : c 21 = false := not_yet hcl (by kernel_rfl : depB _ _ 21 11 = true) hun
        have u := blk_cell hB.out 9
        rw [f21] at u
        replace u := u.trans (rfl : _ = some (Value.int .i64 y))
        clear hun hd hcl
        refine wpOp_step rfl (fun K0 hK => ?_)
        go_simp
        exact hK _ _ ⟨by kernel_rfl, hB, hF, hC⟩
      · clear hi
        clear hun hd hcl
        refine wpOp_step rfl (fun K0 hK => ?_)
        go_simp
        go_at_call 73
        refine (big_ y H.out.2.2.2.2.1 _).mono ?_
        rintro e w2 ⟨rfl, rfl⟩
        exact hK _ _ ⟨by kernel_rfl, hB, hF, hC⟩
      · clear hi
        clear hun hd hcl
        refine wpOp_step rfl (fun K0 hK => ?_)
        go_simp
        exact hK _ _ ⟨by kernel_rfl, hB, hF, hC⟩
      · clear hi
        have f23 : c 23 = false := not_yet hcl (by kernel_rfl : depB _ _ 23 14 = true) hun
        have u := blk_cell hB.out 11
        rw [f23] at u
        replace u := u.trans (rfl : _ = some (Value.int .i64 m))
        clear hun hd hcl
        refine wpOp_step rfl (fun K0 hK => ?_)
        go_simp
        exact hK _ _ ⟨by kernel_rfl, hB, hF, hC⟩
      · clear hi
        clear hun hd hcl
        refine wpOp_step rfl (fun K0 hK => ?_)
        go_simp
        go_at_call 73
        refine (big_ m H.out.2.2.2.2.2 _).mono ?_
        rintro e w2 ⟨rfl, rfl⟩
        exact hK _ _ ⟨by kernel_rfl, hB, hF, hC⟩
      · clear hi
        clear hun hd hcl
        refine wpOp_step rfl (fun K0 hK => ?_)
        go_simp
        exact hK _ _ ⟨by kernel_rfl, hB, hF, hC⟩
      · clear hi
        have u := blk_cell hB.out 8
        rw [hun] at u
        replace u := u.trans (rfl : _ = some (Value.int .i64 i))
        have z := blk_frozen hB.out 8
        clear hun hd hcl
        refine wpOp_step rfl (fun K0 hK => ?_)
        go_simp
        exact hK _ _ ⟨by kernel_rfl, ⟨blk_put (cs' := #[.int .i64 (wrap64 (Int.tmod (IntKind.u64.wrap k) 7)), .int .i64 (wrap64 (Int.tmod (IntKind.u64.wrap a) 65536)), .int .i64 (wrap64 (Int.tmod (IntKind.u64.wrap s) 65536)), .bool b, .int .i64 (bigV p), .int .i64 (bigV q), .int .i64 (bigV n), .int .i64 (bigV t), sl (true) (.int .i64 (IntKind.i64.wrap (Int.tmod (IntKind.u64.wrap i) 4294967296))) (.int .i64 i), sl (c 21) (.int .i64 (bigV y)) (.int .i64 y), sl (c 19) (.int .i64 (IntKind.i64.wrap (Int.tmod (IntKind.u64.wrap d) 65536))) (.int .i64 d), sl (c 23) (.int .i64 (bigV m)) (.int .i64 m)]) hB.out 8 (.int .i64 (IntKind.i64.wrap (Int.tmod (IntKind.u64.wrap i) 4294967296))) rfl⟩, ⟨blk_far (p := ⟨w.heap.size, 8, none⟩) hF.out (by show w.heap.size + 1 ≠ w.heap.size; omega) (.int .i64 (IntKind.i64.wrap (Int.tmod (IntKind.u64.wrap i) 4294967296)))⟩, ⟨Ch.set (p := ⟨w.heap.size, 8, none⟩) hC.out (fun h => absurd h (by show ¬ w.heap.size < _; omega)) (.int .i64 (IntKind.i64.wrap (Int.tmod (IntKind.u64.wrap i) 4294967296)))⟩⟩
      · clear hi
        clear hun hd hcl
        refine wpOp_step rfl (fun K0 hK => ?_)
        go_simp
        exact hK _ _ ⟨by kernel_rfl, hB, hF, hC⟩
      · clear hi
        have u := blk_cell hB.out 10
        rw [hun] at u
        replace u := u.trans (rfl : _ = some (Value.int .i64 d))
        have z := blk_frozen hB.out 10
        clear hun hd hcl
        refine wpOp_step rfl (fun K0 hK => ?_)
        go_simp
        exact hK _ _ ⟨by kernel_rfl, ⟨blk_put (cs' := #[.int .i64 (wrap64 (Int.tmod (IntKind.u64.wrap k) 7)), .int .i64 (wrap64 (Int.tmod (IntKind.u64.wrap a) 65536)), .int .i64 (wrap64 (Int.tmod (IntKind.u64.wrap s) 65536)), .bool b, .int .i64 (bigV p), .int .i64 (bigV q), .int .i64 (bigV n), .int .i64 (bigV t), sl (c 17) (.int .i64 (IntKind.i64.wrap (Int.tmod (IntKind.u64.wrap i) 4294967296))) (.int .i64 i), sl (c 21) (.int .i64 (bigV y)) (.int .i64 y), sl (true) (.int .i64 (IntKind.i64.wrap (Int.tmod (IntKind.u64.wrap d) 65536))) (.int .i64 d), sl (c 23) (.int .i64 (bigV m)) (.int .i64 m)]) hB.out 10 (.int .i64 (IntKind.i64.wrap (Int.tmod (IntKind.u64.wrap d) 65536))) rfl⟩, ⟨blk_far (p := ⟨w.heap.size, 10, none⟩) hF.out (by show w.heap.size + 1 ≠ w.heap.size; omega) (.int .i64 (IntKind.i64.wrap (Int.tmod (IntKind.u64.wrap d) 65536)))⟩, ⟨Ch.set (p := ⟨w.heap.size, 10, none⟩) hC.out (fun h => absurd h (by show ¬ w.heap.size < _; omega)) (.int .i64 (IntKind.i64.wrap (Int.tmod (IntKind.u64.wrap d) 65536)))⟩⟩
      · clear hi
        clear hun hd hcl
        refine wpOp_step rfl (fun K0 hK => ?_)
        go_simp
        exact hK _ _ ⟨by kernel_rfl, hB, hF, hC⟩
      · clear hi
        have u := blk_cell hB.out 9
        rw [hun] at u
        replace u := u.trans (rfl : _ = some (Value.int .i64 y))
        have z := blk_frozen hB.out 9
        clear hun hd hcl
        refine wpOp_step rfl (fun K0 hK => ?_)
        go_simp
        exact hK _ _ ⟨by kernel_rfl, ⟨blk_put (cs' := #[.int .i64 (wrap64 (Int.tmod (IntKind.u64.wrap k) 7)), .int .i64 (wrap64 (Int.tmod (IntKind.u64.wrap a) 65536)), .int .i64 (wrap64 (Int.tmod (IntKind.u64.wrap s) 65536)), .bool b, .int .i64 (bigV p), .int .i64 (bigV q), .int .i64 (bigV n), .int .i64 (bigV t), sl (c 17) (.int .i64 (IntKind.i64.wrap (Int.tmod (IntKind.u64.wrap i) 4294967296))) (.int .i64 i), sl (true) (.int .i64 (bigV y)) (.int .i64 y), sl (c 19) (.int .i64 (IntKind.i64.wrap (Int.tmod (IntKind.u64.wrap d) 65536))) (.int .i64 d), sl (c 23) (.int .i64 (bigV m)) (.int .i64 m)]) hB.out 9 (.int .i64 (bigV y)) rfl⟩, ⟨blk_far (p := ⟨w.heap.size, 9, none⟩) hF.out (by show w.heap.size + 1 ≠ w.heap.size; omega) (.int .i64 (bigV y))⟩, ⟨Ch.set (p := ⟨w.heap.size, 9, none⟩) hC.out (fun h => absurd h (by show ¬ w.heap.size < _; omega)) (.int .i64 (bigV y))⟩⟩
      · clear hi
        clear hun hd hcl
        refine wpOp_step rfl (fun K0 hK => ?_)
        go_simp
        exact hK _ _ ⟨by kernel_rfl, hB, hF, hC⟩
      · clear hi
        have u := blk_cell hB.out 11
        rw [hun] at u
        replace u := u.trans (rfl : _ = some (Value.int .i64 m))
        have z := blk_frozen hB.out 11
        clear hun hd hcl
        refine wpOp_step rfl (fun K0 hK => ?_)
        go_simp
        exact hK _ _ ⟨by kernel_rfl, ⟨blk_put (cs' := #[.int .i64 (wrap64 (Int.tmod (IntKind.u64.wrap k) 7)), .int .i64 (wrap64 (Int.tmod (IntKind.u64.wrap a) 65536)), .int .i64 (wrap64 (Int.tmod (IntKind.u64.wrap s) 65536)), .bool b, .int .i64 (bigV p), .int .i64 (bigV q), .int .i64 (bigV n), .int .i64 (bigV t), sl (c 17) (.int .i64 (IntKind.i64.wrap (Int.tmod (IntKind.u64.wrap i) 4294967296))) (.int .i64 i), sl (c 21) (.int .i64 (bigV y)) (.int .i64 y), sl (c 19) (.int .i64 (IntKind.i64.wrap (Int.tmod (IntKind.u64.wrap d) 65536))) (.int .i64 d), sl (true) (.int .i64 (bigV m)) (.int .i64 m)]) hB.out 11 (.int .i64 (bigV m)) rfl⟩, ⟨blk_far (p := ⟨w.heap.size, 11, none⟩) hF.out (by show w.heap.size + 1 ≠ w.heap.size; omega) (.int .i64 (bigV m))⟩, ⟨Ch.set (p := ⟨w.heap.size, 11, none⟩) hC.out (fun h => absurd h (by show ¬ w.heap.size < _; omega)) (.int .i64 (bigV m))⟩⟩
    case he =>
      rintro c w' ⟨hB, hF, hC⟩ hall
      have hB := hB.out
      rw [hall 17 (by show 17 < 24; omega), hall 19 (by show 19 < 24; omega), hall 21 (by show 21 < 24; omega), hall 23 (by show 23 < 24; omega)] at hB
      simp only [sl_t, IntKind.wrap_i64, wrap64] at hB
      go_wp2_with (fail)
      go_meet
      case rel => exact ⟨⟨by simp only [wrap64]; exact hB⟩, hF, hC⟩
  case rest =>
    obtain ⟨HB1', HB2', HHC'⟩ := hcut
    have B1 := HB1'.out
    have B2 := HB2'.out
    have HC := HHC'.out
    clear HB1 HB2 HHC HB1' HB2' HHC' c8 z8 c9 z9 c10 z10 c11 z11
    have u0 := (blk_cell B1 0).trans rfl
    have u1 := (blk_cell B1 1).trans rfl
    have u2 := (blk_cell B1 2).trans rfl
    have u3 := (blk_cell B1 3).trans rfl
    have u4 := (blk_cell B1 4).trans rfl
    have u5 := (blk_cell B1 5).trans rfl
    have u6 := (blk_cell B1 6).trans rfl
    have u7 := (blk_cell B1 7).trans rfl
    have u8 := (blk_cell B1 8).trans rfl
    have u9 := (blk_cell B1 9).trans rfl
    have u10 := (blk_cell B1 10).trans rfl
    have u11 := (blk_cell B1 11).trans rfl
    have HB2 := Aside0.mk B2
    have HHC := Aside0.mk HC
    clear B1 B2 HC
    go_wp2_with (fail)
    refine (rbare_ (raw ⟨k, a, s, b, p, q, n, t, i, y, d, m⟩) _).mono ?_
    rintro e w' ⟨he, hb⟩
    have he2 : e = .returned (fixM ⟨k, a, s, b, p, q, n, t, i, y, d, m⟩).v := he
    subst he2
    have BR := Aside0.mk (blk_below HB2.out hb)
    have HW := Aside0.mk (Ch.step HHC.out hb)
    clear hb u0 u1 u2 u3 u4 u5 u6 u7 u8 u9 u10 u11
    have r0 := (blk_cell BR.out 0).trans rfl
    have y0 := blk_frozen BR.out 0
    have r1 := (blk_cell BR.out 1).trans rfl
    have y1 := blk_frozen BR.out 1
    have r2 := (blk_cell BR.out 2).trans rfl
    have y2 := blk_frozen BR.out 2
    have r3 := (blk_cell BR.out 3).trans rfl
    have y3 := blk_frozen BR.out 3
    have r4 := (blk_cell BR.out 4).trans rfl
    have y4 := blk_frozen BR.out 4
    have r5 := (blk_cell BR.out 5).trans rfl
    have y5 := blk_frozen BR.out 5
    have r6 := (blk_cell BR.out 6).trans rfl
    have y6 := blk_frozen BR.out 6
    have r7 := (blk_cell BR.out 7).trans rfl
    have y7 := blk_frozen BR.out 7
    have r8 := (blk_cell BR.out 8).trans rfl
    have y8 := blk_frozen BR.out 8
    have r9 := (blk_cell BR.out 9).trans rfl
    have y9 := blk_frozen BR.out 9
    have r10 := (blk_cell BR.out 10).trans rfl
    have y10 := blk_frozen BR.out 10
    have r11 := (blk_cell BR.out 11).trans rfl
    have y11 := blk_frozen BR.out 11
    unfold Msg.v
    go_wp2_with (fail)
    refine bodyPost_ret (results_cell_row rfl _ _ (w.heap.size + 1) 25 #[.int .i64 (fixM ⟨k, a, s, b, p, q, n, t, i, y, d, m⟩).k, .int .i64 (fixM ⟨k, a, s, b, p, q, n, t, i, y, d, m⟩).a, .int .i64 (fixM ⟨k, a, s, b, p, q, n, t, i, y, d, m⟩).s, .bool (fixM ⟨k, a, s, b, p, q, n, t, i, y, d, m⟩).b, .int .i64 (fixM ⟨k, a, s, b, p, q, n, t, i, y, d, m⟩).p, .int .i64 (fixM ⟨k, a, s, b, p, q, n, t, i, y, d, m⟩).q, .int .i64 (fixM ⟨k, a, s, b, p, q, n, t, i, y, d, m⟩).n, .int .i64 (fixM ⟨k, a, s, b, p, q, n, t, i, y, d, m⟩).t, .int .i64 (fixM ⟨k, a, s, b, p, q, n, t, i, y, d, m⟩).i, .int .i64 (fixM ⟨k, a, s, b, p, q, n, t, i, y, d, m⟩).y, .int .i64 (fixM ⟨k, a, s, b, p, q, n, t, i, y, d, m⟩).d, .int .i64 (fixM ⟨k, a, s, b, p, q, n, t, i, y, d, m⟩).m] (0, 0) _ rfl (by exact blk_put (cs' := #[.int .i64 (fixM ⟨k, a, s, b, p, q, n, t, i, y, d, m⟩).k, .int .i64 (fixM ⟨k, a, s, b, p, q, n, t, i, y, d, m⟩).a, .int .i64 (fixM ⟨k, a, s, b, p, q, n, t, i, y, d, m⟩).s, .bool (fixM ⟨k, a, s, b, p, q, n, t, i, y, d, m⟩).b, .int .i64 (fixM ⟨k, a, s, b, p, q, n, t, i, y, d, m⟩).p, .int .i64 (fixM ⟨k, a, s, b, p, q, n, t, i, y, d, m⟩).q, .int .i64 (fixM ⟨k, a, s, b, p, q, n, t, i, y, d, m⟩).n, .int .i64 (fixM ⟨k, a, s, b, p, q, n, t, i, y, d, m⟩).t, .int .i64 (fixM ⟨k, a, s, b, p, q, n, t, i, y, d, m⟩).i, .int .i64 (fixM ⟨k, a, s, b, p, q, n, t, i, y, d, m⟩).y, .int .i64 (fixM ⟨k, a, s, b, p, q, n, t, i, y, d, m⟩).d, .int .i64 (fixM ⟨k, a, s, b, p, q, n, t, i, y, d, m⟩).m]) (blk_put (cs' := #[.int .i64 (fixM ⟨k, a, s, b, p, q, n, t, i, y, d, m⟩).k, .int .i64 (fixM ⟨k, a, s, b, p, q, n, t, i, y, d, m⟩).a, .int .i64 (fixM ⟨k, a, s, b, p, q, n, t, i, y, d, m⟩).s, .bool (fixM ⟨k, a, s, b, p, q, n, t, i, y, d, m⟩).b, .int .i64 (fixM ⟨k, a, s, b, p, q, n, t, i, y, d, m⟩).p, .int .i64 (fixM ⟨k, a, s, b, p, q, n, t, i, y, d, m⟩).q, .int .i64 (fixM ⟨k, a, s, b, p, q, n, t, i, y, d, m⟩).n, .int .i64 (fixM ⟨k, a, s, b, p, q, n, t, i, y, d, m⟩).t, .int .i64 (fixM ⟨k, a, s, b, p, q, n, t, i, y, d, m⟩).i, .int .i64 (fixM ⟨k, a, s, b, p, q, n, t, i, y, d, m⟩).y, .int .i64 (fixM ⟨k, a, s, b, p, q, n, t, i, y, d, m⟩).d, .int .i64 0]) (blk_put (cs' := #[.int .i64 (fixM ⟨k, a, s, b, p, q, n, t, i, y, d, m⟩).k, .int .i64 (fixM ⟨k, a, s, b, p, q, n, t, i, y, d, m⟩).a, .int .i64 (fixM ⟨k, a, s, b, p, q, n, t, i, y, d, m⟩).s, .bool (fixM ⟨k, a, s, b, p, q, n, t, i, y, d, m⟩).b, .int .i64 (fixM ⟨k, a, s, b, p, q, n, t, i, y, d, m⟩).p, .int .i64 (fixM ⟨k, a, s, b, p, q, n, t, i, y, d, m⟩).q, .int .i64 (fixM ⟨k, a, s, b, p, q, n, t, i, y, d, m⟩).n, .int .i64 (fixM ⟨k, a, s, b, p, q, n, t, i, y, d, m⟩).t, .int .i64 (fixM ⟨k, a, s, b, p, q, n, t, i, y, d, m⟩).i, .int .i64 (fixM ⟨k, a, s, b, p, q, n, t, i, y, d, m⟩).y, .int .i64 0, .int .i64 0]) (blk_put (cs' := #[.int .i64 (fixM ⟨k, a, s, b, p, q, n, t, i, y, d, m⟩).k, .int .i64 (fixM ⟨k, a, s, b, p, q, n, t, i, y, d, m⟩).a, .int .i64 (fixM ⟨k, a, s, b, p, q, n, t, i, y, d, m⟩).s, .bool (fixM ⟨k, a, s, b, p, q, n, t, i, y, d, m⟩).b, .int .i64 (fixM ⟨k, a, s, b, p, q, n, t, i, y, d, m⟩).p, .int .i64 (fixM ⟨k, a, s, b, p, q, n, t, i, y, d, m⟩).q, .int .i64 (fixM ⟨k, a, s, b, p, q, n, t, i, y, d, m⟩).n, .int .i64 (fixM ⟨k, a, s, b, p, q, n, t, i, y, d, m⟩).t, .int .i64 (fixM ⟨k, a, s, b, p, q, n, t, i, y, d, m⟩).i, .int .i64 0, .int .i64 0, .int .i64 0]) (blk_put (cs' := #[.int .i64 (fixM ⟨k, a, s, b, p, q, n, t, i, y, d, m⟩).k, .int .i64 (fixM ⟨k, a, s, b, p, q, n, t, i, y, d, m⟩).a, .int .i64 (fixM ⟨k, a, s, b, p, q, n, t, i, y, d, m⟩).s, .bool (fixM ⟨k, a, s, b, p, q, n, t, i, y, d, m⟩).b, .int .i64 (fixM ⟨k, a, s, b, p, q, n, t, i, y, d, m⟩).p, .int .i64 (fixM ⟨k, a, s, b, p, q, n, t, i, y, d, m⟩).q, .int .i64 (fixM ⟨k, a, s, b, p, q, n, t, i, y, d, m⟩).n, .int .i64 (fixM ⟨k, a, s, b, p, q, n, t, i, y, d, m⟩).t, .int .i64 0, .int .i64 0, .int .i64 0, .int .i64 0]) (blk_put (cs' := #[.int .i64 (fixM ⟨k, a, s, b, p, q, n, t, i, y, d, m⟩).k, .int .i64 (fixM ⟨k, a, s, b, p, q, n, t, i, y, d, m⟩).a, .int .i64 (fixM ⟨k, a, s, b, p, q, n, t, i, y, d, m⟩).s, .bool (fixM ⟨k, a, s, b, p, q, n, t, i, y, d, m⟩).b, .int .i64 (fixM ⟨k, a, s, b, p, q, n, t, i, y, d, m⟩).p, .int .i64 (fixM ⟨k, a, s, b, p, q, n, t, i, y, d, m⟩).q, .int .i64 (fixM ⟨k, a, s, b, p, q, n, t, i, y, d, m⟩).n, .int .i64 0, .int .i64 0, .int .i64 0, .int .i64 0, .int .i64 0]) (blk_put (cs' := #[.int .i64 (fixM ⟨k, a, s, b, p, q, n, t, i, y, d, m⟩).k, .int .i64 (fixM ⟨k, a, s, b, p, q, n, t, i, y, d, m⟩).a, .int .i64 (fixM ⟨k, a, s, b, p, q, n, t, i, y, d, m⟩).s, .bool (fixM ⟨k, a, s, b, p, q, n, t, i, y, d, m⟩).b, .int .i64 (fixM ⟨k, a, s, b, p, q, n, t, i, y, d, m⟩).p, .int .i64 (fixM ⟨k, a, s, b, p, q, n, t, i, y, d, m⟩).q, .int .i64 0, .int .i64 0, .int .i64 0, .int .i64 0, .int .i64 0, .int .i64 0]) (blk_put (cs' := #[.int .i64 (fixM ⟨k, a, s, b, p, q, n, t, i, y, d, m⟩).k, .int .i64 (fixM ⟨k, a, s, b, p, q, n, t, i, y, d, m⟩).a, .int .i64 (fixM ⟨k, a, s, b, p, q, n, t, i, y, d, m⟩).s, .bool (fixM ⟨k, a, s, b, p, q, n, t, i, y, d, m⟩).b, .int .i64 (fixM ⟨k, a, s, b, p, q, n, t, i, y, d, m⟩).p, .int .i64 0, .int .i64 0, .int .i64 0, .int .i64 0, .int .i64 0, .int .i64 0, .int .i64 0]) (blk_put (cs' := #[.int .i64 (fixM ⟨k, a, s, b, p, q, n, t, i, y, d, m⟩).k, .int .i64 (fixM ⟨k, a, s, b, p, q, n, t, i, y, d, m⟩).a, .int .i64 (fixM ⟨k, a, s, b, p, q, n, t, i, y, d, m⟩).s, .bool (fixM ⟨k, a, s, b, p, q, n, t, i, y, d, m⟩).b, .int .i64 0, .int .i64 0, .int .i64 0, .int .i64 0, .int .i64 0, .int .i64 0, .int .i64 0, .int .i64 0]) (blk_put (cs' := #[.int .i64 (fixM ⟨k, a, s, b, p, q, n, t, i, y, d, m⟩).k, .int .i64 (fixM ⟨k, a, s, b, p, q, n, t, i, y, d, m⟩).a, .int .i64 (fixM ⟨k, a, s, b, p, q, n, t, i, y, d, m⟩).s, .bool false, .int .i64 0, .int .i64 0, .int .i64 0, .int .i64 0, .int .i64 0, .int .i64 0, .int .i64 0, .int .i64 0]) (blk_put (cs' := #[.int .i64 (fixM ⟨k, a, s, b, p, q, n, t, i, y, d, m⟩).k, .int .i64 (fixM ⟨k, a, s, b, p, q, n, t, i, y, d, m⟩).a, .int .i64 0, .bool false, .int .i64 0, .int .i64 0, .int .i64 0, .int .i64 0, .int .i64 0, .int .i64 0, .int .i64 0, .int .i64 0]) (blk_put (cs' := #[.int .i64 (fixM ⟨k, a, s, b, p, q, n, t, i, y, d, m⟩).k, .int .i64 0, .int .i64 0, .bool false, .int .i64 0, .int .i64 0, .int .i64 0, .int .i64 0, .int .i64 0, .int .i64 0, .int .i64 0, .int .i64 0]) (BR.out) 0 (.int .i64 (fixM ⟨k, a, s, b, p, q, n, t, i, y, d, m⟩).k) rfl) 1 (.int .i64 (fixM ⟨k, a, s, b, p, q, n, t, i, y, d, m⟩).a) rfl) 2 (.int .i64 (fixM ⟨k, a, s, b, p, q, n, t, i, y, d, m⟩).s) rfl) 3 (.bool (fixM ⟨k, a, s, b, p, q, n, t, i, y, d, m⟩).b) rfl) 4 (.int .i64 (fixM ⟨k, a, s, b, p, q, n, t, i, y, d, m⟩).p) rfl) 5 (.int .i64 (fixM ⟨k, a, s, b, p, q, n, t, i, y, d, m⟩).q) rfl) 6 (.int .i64 (fixM ⟨k, a, s, b, p, q, n, t, i, y, d, m⟩).n) rfl) 7 (.int .i64 (fixM ⟨k, a, s, b, p, q, n, t, i, y, d, m⟩).t) rfl) 8 (.int .i64 (fixM ⟨k, a, s, b, p, q, n, t, i, y, d, m⟩).i) rfl) 9 (.int .i64 (fixM ⟨k, a, s, b, p, q, n, t, i, y, d, m⟩).y) rfl) 10 (.int .i64 (fixM ⟨k, a, s, b, p, q, n, t, i, y, d, m⟩).d) rfl) 11 (.int .i64 (fixM ⟨k, a, s, b, p, q, n, t, i, y, d, m⟩).m) rfl) Try.underlying25 rfl (by kernel_rfl)) rfl ?_
    exact ⟨rfl, Ch.below0 (Ch.set (p := ⟨w.heap.size + 1, 11, none⟩) (Ch.set (p := ⟨w.heap.size + 1, 10, none⟩) (Ch.set (p := ⟨w.heap.size + 1, 9, none⟩) (Ch.set (p := ⟨w.heap.size + 1, 8, none⟩) (Ch.set (p := ⟨w.heap.size + 1, 7, none⟩) (Ch.set (p := ⟨w.heap.size + 1, 6, none⟩) (Ch.set (p := ⟨w.heap.size + 1, 5, none⟩) (Ch.set (p := ⟨w.heap.size + 1, 4, none⟩) (Ch.set (p := ⟨w.heap.size + 1, 3, none⟩) (Ch.set (p := ⟨w.heap.size + 1, 2, none⟩) (Ch.set (p := ⟨w.heap.size + 1, 1, none⟩) (Ch.set (p := ⟨w.heap.size + 1, 0, none⟩) (HW.out) (fun h => absurd h (by show ¬ w.heap.size + 1 < _; omega)) (.int .i64 (fixM ⟨k, a, s, b, p, q, n, t, i, y, d, m⟩).k)) (fun h => absurd h (by show ¬ w.heap.size + 1 < _; omega)) (.int .i64 (fixM ⟨k, a, s, b, p, q, n, t, i, y, d, m⟩).a)) (fun h => absurd h (by show ¬ w.heap.size + 1 < _; omega)) (.int .i64 (fixM ⟨k, a, s, b, p, q, n, t, i, y, d, m⟩).s)) (fun h => absurd h (by show ¬ w.heap.size + 1 < _; omega)) (.bool (fixM ⟨k, a, s, b, p, q, n, t, i, y, d, m⟩).b)) (fun h => absurd h (by show ¬ w.heap.size + 1 < _; omega)) (.int .i64 (fixM ⟨k, a, s, b, p, q, n, t, i, y, d, m⟩).p)) (fun h => absurd h (by show ¬ w.heap.size + 1 < _; omega)) (.int .i64 (fixM ⟨k, a, s, b, p, q, n, t, i, y, d, m⟩).q)) (fun h => absurd h (by show ¬ w.heap.size + 1 < _; omega)) (.int .i64 (fixM ⟨k, a, s, b, p, q, n, t, i, y, d, m⟩).n)) (fun h => absurd h (by show ¬ w.heap.size + 1 < _; omega)) (.int .i64 (fixM ⟨k, a, s, b, p, q, n, t, i, y, d, m⟩).t)) (fun h => absurd h (by show ¬ w.heap.size + 1 < _; omega)) (.int .i64 (fixM ⟨k, a, s, b, p, q, n, t, i, y, d, m⟩).i)) (fun h => absurd h (by show ¬ w.heap.size + 1 < _; omega)) (.int .i64 (fixM ⟨k, a, s, b, p, q, n, t, i, y, d, m⟩).y)) (fun h => absurd h (by show ¬ w.heap.size + 1 < _; omega)) (.int .i64 (fixM ⟨k, a, s, b, p, q, n, t, i, y, d, m⟩).d)) (fun h => absurd h (by show ¬ w.heap.size + 1 < _; omega)) (.int .i64 (fixM ⟨k, a, s, b, p, q, n, t, i, y, d, m⟩).m))⟩
/-- Fix. -/
theorem fix_ (m : Msg) (h : M64 m) (w : World) : Calls Try.prog 39 #[m.v] w fun e w' => e = .returned (fixM m).v ∧ Below w.heap.size w w' := fix_h m.k m.a m.s m.b m.p m.q m.n m.t m.i m.y m.d m.m h w
end Go.Proofs.Ytgikjgekdeaneaa.Wire
