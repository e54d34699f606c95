/- Wire: the reference's Encode by hand. -/
import Derived.Test.YtgikjgekdeaneaaWireK
import Derived.Test.YtgikjgekdeaneaaWireL
namespace Go.Proofs.Ytgikjgekdeaneaa.Seq
open Go.Proofs.Ytgikjgekdeaneaa.Cert
section
variable {P : Program} {ops : Array Oper} {Q : Exit → Act → World → Prop} {S : World → Prop} {ch : List Nat} {i : Nat} {is : List Nat} {a a' : Act} {w : World} {o : Oper}
/-- It may turn the world: by a law over a step. -/
theorem seq_stp (ho : ops[i]? = some o) (hc : ch.contains i = true)
    (h : ∀ K : Act → World → Prop, (∀ a' w', S w' → wpSeq P ops Q S ch is a' w' → K a' w') → if Region.wanted o (yielded ops a.tmps) = true then Oper.wp P o a w K Q else K (a.put o.dst undef) w) : wpSeq P ops Q S ch (i :: is) a w :=
  Or.inr ⟨hc, wpOp_step ho (fun K' hK => h K' (fun a' w' hS hr => hK a' w' ⟨hS, hr⟩))⟩
theorem seq_fr (ha : a = a') (hr : wpSeq P ops Q S ch is a' w) : wpSeq P ops Q S ch is a w := by rw [ha]; exact hr
end
end Go.Proofs.Ytgikjgekdeaneaa.Seq
namespace Go.Proofs.Ytgikjgekdeaneaa.Wire
open Go.RowKit Go.Proofs.Ytgikjgekdeaneaa.Cert Go.Proofs.Ytgikjgekdeaneaa.Seq Go.Proofs.Ytgikjgekdeaneaa.QWire Go.Proofs.YtgikjgekdeaneaaW.PrintWords Go.Proofs.YtgikjgekdeaneaaW.PrintLast Go.Proofs.YtgikjgekdeaneaaW.PrintMore Go.Proofs.Ytgikjgekdeaneaa.Own
set_option linter.unusedVariables false
set_option linter.unusedSimpArgs false
/-- Bytes are appended. -/
theorem app_b {ops : Array Oper} {o : Oper} {a : Act} {w W : World} {Kc : Act → World → Prop} {Q : Exit → Act → World → Prop} (hw : Region.wanted o (yielded ops a.tmps) = true) (s x : Operand)
    (ho : o.op = .call { callee := .builtin .append, args := #[s, x], argTypes := #[26, 26] }) (v : Value) (xs ys : List Int) (A : Option Addr) (m c : Nat) (hs : a.eval s = v) (hx : a.eval x = .slice A m c)
    (HO : (Kd.int .u8).R 5 W w.heap.size (fun _ => True) v xs) (HR : Kd.C (Kd.int .u8) W A m ys) (HB : Below w.heap.size w W) (hl : xs.length + m ≤ 1000)
    (h : ∀ v1 w1, (Kd.int .u8).R 5 w1 w.heap.size (fun _ => True) v1 (xs ++ ys) → Below w.heap.size w w1 → W.grownBy w1 v.ownBlock → Kc (a.put o.dst v1) w1) :
    if Region.wanted o (yielded ops a.tmps) = true then Oper.wp Try.prog o a W Kc Q else Kc (a.put o.dst undef) W :=
  Kd.R_append_rows_step (Kd.int .u8) (w0 := w) w.heap.size hw s x 26 5 (.int .u8 0) 1 ho Try.underlying26 info5' rfl (by decide) (by omega) v xs ys A m c (fun _ => True) (fun _ => False) hs hx HO HR (fun _ _ h => h) (fun _ h => h.elim) (fun _ _ => trivial) HB HB.size (by omega) (fun v1 w1 ho hb hg _ => h v1 w1 ho hb hg)
/-- What Encode gives. -/
def EncP (w : World) (l : List Int) (e : Ending) (w' : World) : Prop := ∃ v : Value, e = .returned v ∧ (Kd.int .u8).R 5 w' w.heap.size (fun _ => True) v l ∧ Below w.heap.size w w'
set_option maxHeartbeats 8000000 in
set_option maxRecDepth 100000 in
theorem renc_0t (m : Msg) (h : Right m) (hf : Fit m) (hk : m.k = 0) (hs : m.b = true) (w : World) : Calls Try.prog 21 #[m.v] w (EncP w (enc m)) := by
 have HR := Aside0.mk h
 have HF := Aside0.mk hf
 have HK := Aside0.mk hk
 have HS := Aside0.mk hs
 clear hk hs
 clear h hf
 go_enter Try.func21, Try.ntmps21
 unfold Msg.v
 go_wp2_with (fail)
 refine (rright_ m _).mono ?_
 rintro e u1 ⟨⟨r, rfl, hr⟩, hb⟩
 obtain rfl : r = true := hr.2 HR.out
 have B1 := Aside0.mk (blk_below (new_at w (.cells #[.int .i64 m.k, .int .i64 m.a, .int .i64 m.s, .bool m.b, .int .i64 m.p, .int .i64 m.q, .int .i64 m.n, .int .i64 m.t, .int .i64 m.i, .int .i64 m.y, .int .i64 m.d, .int .i64 m.m] 25) _ rfl) hb)
 have HB := Aside0.mk (below_step ((Below.refl w.heap.size w).alloc (Nat.le_refl _) (.cells #[.int .i64 m.k, .int .i64 m.a, .int .i64 m.s, .bool m.b, .int .i64 m.p, .int .i64 m.q, .int .i64 m.n, .int .i64 m.t, .int .i64 m.i, .int .i64 m.y, .int .i64 m.d, .int .i64 m.m] 25)) hb)
 clear hb hr
 have x0 := (blk_cell B1.out 0).trans rfl
 go_wp2_with ((with_reducible refine gate_dst (N := 11) rfl ?_); refine Kd.R_lit (Kd.int .u8) (w0 := w) w.heap.size 5 ?hg (N := 11) ?hd (xs := ([m.k % 256] : List Int)) (inner := [.int .u8 (m.k % 256)]) (ok := fun _ => True) (okp := fun _ => True) ?hr ?hp (fun _ hk => hk) trivial HB.out HB.out.size (by simp) ?_; (case hd => rfl); (case hg => rfl); (case hr => first | (go_simp; done) | (go_simp; rfl)); (case hp => exact (Reps.one (show Kd.M (Kd.int .u8) _ _ _ (m.k % 256) [.int .u8 (m.k % 256)] from rfl) (Reps.none _ _))); intro v1 w2 ho hb hg hn; have B2 := Aside0.mk (blk_grown B1.out hg (by intro h; cases h)); have HO := Aside0.mk ho; have HB2 := Aside0.mk hb; clear ho hb hg hn B1 HB; refine stop_ ?_)
 unfold Stop
 clear x0
 have hk := HK.out
 have x0 := (blk_cell B2.out 0).trans rfl
 have x1 := (blk_cell B2.out 1).trans rfl
 have x2 := (blk_cell B2.out 2).trans rfl
 have x3 := (blk_cell B2.out 3).trans rfl
 have x4 := (blk_cell B2.out 4).trans rfl
 have x5 := (blk_cell B2.out 5).trans rfl
 have x6 := (blk_cell B2.out 6).trans rfl
 have x7 := (blk_cell B2.out 7).trans rfl
 go_wp2_with (fail)
 clear hk x0 x1 x2 x3 x4 x5 x6 x7
 have T : (fun w' => Aside0 (w'.heap[w2.heap.size]? = some (.cells #[.int .i64 m.a, .int .i64 m.s, .bool m.b, .int .i64 m.p, .int .i64 m.q, .int .i64 m.n, .int .i64 m.t] 23)) ∧ Aside0 (Below w.heap.size w w')) (World.drew (w2.alloc (.cells #[.int .i64 m.a, .int .i64 m.s, .bool m.b, .int .i64 m.p, .int .i64 m.q, .int .i64 m.n, .int .i64 m.t] 23))) := ⟨⟨blk_drew (new_at _ _ _ rfl)⟩, ⟨(HB2.out.alloc (below_size HB2.out) _).drew⟩⟩
 have HO' := Aside0.mk (Kd.R_drew (Kd.R_alloc HO.out (.cells #[.int .i64 m.a, .int .i64 m.s, .bool m.b, .int .i64 m.p, .int .i64 m.q, .int .i64 m.n, .int .i64 m.t] 23)))
 clear HO B2 HB2
 have HO := HO'
 clear HO'
 refine wp_region_seq (fun w' => Aside0 (w'.heap[w2.heap.size]? = some (.cells #[.int .i64 m.a, .int .i64 m.s, .bool m.b, .int .i64 m.p, .int .i64 m.q, .int .i64 m.n, .int .i64 m.t] 23)) ∧ Aside0 (Below w.heap.size w w')) [3, 4, 7, 8] [0, 1, 2, 5, 6, 3, 4, 7, 8, 9] (by kernel_rfl) (by kernel_rfl) (by kernel_rfl) (by kernel_rfl) (by kernel_rfl) (fun _ _ d _ _ h => by cases d <;> exact h) ?h0 ?hseq
 case h0 => exact T
 case hseq =>
  first | (refine seq_val (v := ?_) (a' := ?_) rfl ?_ ?_ ?_ ?_; rotate_left 2; (· rfl); (· intro w0 hS; go_simp; first | done | with_reducible rfl); (· go_simp; first | done | with_reducible rfl)) | (refine seq_off (a' := ?_) rfl ?_ ?_ ?_; rotate_left 1; (· rfl); (· go_simp; first | done | with_reducible rfl))
  first | (refine seq_val (v := ?_) (a' := ?_) rfl ?_ ?_ ?_ ?_; rotate_left 2; (· rfl); (· intro w0 hS; go_simp; first | done | with_reducible rfl); (· go_simp; first | done | with_reducible rfl)) | (refine seq_off (a' := ?_) rfl ?_ ?_ ?_; rotate_left 1; (· rfl); (· go_simp; first | done | with_reducible rfl))
  first | (refine seq_val (v := ?_) (a' := ?_) rfl ?_ ?_ ?_ ?_; rotate_left 2; (· rfl); (· intro w0 hS; obtain ⟨s0, s1⟩ := hS; have x := (blk_cell s0.out 0).trans rfl; go_simp; first | done | with_reducible rfl); (· go_simp; first | done | with_reducible rfl)) | (refine seq_off (a' := ?_) rfl ?_ ?_ ?_; rotate_left 1; (· rfl); (· go_simp; first | done | with_reducible rfl))
  first | (refine seq_val (v := ?_) (a' := ?_) rfl ?_ ?_ ?_ ?_; rotate_left 2; (· rfl); (· intro w0 hS; go_simp; first | done | with_reducible rfl); (· go_simp; first | done | with_reducible rfl)) | (refine seq_off (a' := ?_) rfl ?_ ?_ ?_; rotate_left 1; (· rfl); (· go_simp; first | done | with_reducible rfl))
  first | (refine seq_val (v := ?_) (a' := ?_) rfl ?_ ?_ ?_ ?_; rotate_left 2; (· rfl); (· intro w0 hS; obtain ⟨s0, s1⟩ := hS; have x := (blk_cell s0.out 1).trans rfl; go_simp; first | done | with_reducible rfl); (· go_simp; first | done | with_reducible rfl)) | (refine seq_off (a' := ?_) rfl ?_ ?_ ?_; rotate_left 1; (· rfl); (· go_simp; first | done | with_reducible rfl))
  refine seq_op rfl (by kernel_rfl) (by rfl) (fun K hK => ?_)
  go_simp
  go_at_call 67
  refine (num2 m.a (by have := HR.out; unfold Right at this; omega) (by have h1 := HR.out; have h2 := HF.out; unfold Right at h1; unfold Fit at h2; omega) _).mono ?_
  rintro e ua7 ⟨v, rfl, ho, hb⟩
  obtain ⟨aA, ac, rfl, hc5, hC5⟩ := Kd.R_reads ho
  have HC := Aside0.mk hC5
  obtain ⟨t0, t1⟩ := T
  have T : (fun w' => Aside0 (w'.heap[w2.heap.size]? = some (.cells #[.int .i64 m.a, .int .i64 m.s, .bool m.b, .int .i64 m.p, .int .i64 m.q, .int .i64 m.n, .int .i64 m.t] 23)) ∧ Aside0 (Below w.heap.size w w')) ua7 := ⟨⟨blk_below t0.out hb⟩, ⟨below_step t1.out hb⟩⟩
  have HO' := Aside0.mk (Kd.R_below HO.out hb)
  clear HO
  refine hK _ _ T ?_
  clear hK K hb ho hC5 hc5 t0 t1
  refine seq_stp rfl (by kernel_rfl) (fun K hK => ?_)
  refine app_b (w := w) (W := ua7) rfl (.tmp 18) (.tmp 21) rfl v1 ([m.k % 256]) (be 2 m.a) aA (be 2 m.a).length ac rfl rfl HO'.out HC.out T.2.out (by simp [be_len]) ?_
  intro va7 wva7 ho hb hg
  have T' : (fun w' => Aside0 (w'.heap[w2.heap.size]? = some (.cells #[.int .i64 m.a, .int .i64 m.s, .bool m.b, .int .i64 m.p, .int .i64 m.q, .int .i64 m.n, .int .i64 m.t] 23)) ∧ Aside0 (Below w.heap.size w w')) wva7 := ⟨⟨blk_grown T.1.out hg (Kd.R_ne HO'.out T.1.out (by decide))⟩, ⟨hb⟩⟩
  have HO := Aside0.mk ho
  clear HO' HC T
  have T := T'
  clear T'
  refine hK _ _ T ?_
  clear hK K ho hb hg
  refine seq_fr (a' := ?_) ?_ ?_; rotate_left 1; (· go_simp; first | done | with_reducible rfl)
  refine seq_op rfl (by kernel_rfl) (by rfl) (fun K hK => ?_)
  go_simp
  go_at_call 67
  refine (num2 m.s (by have := HR.out; unfold Right at this; omega) (by have h1 := HR.out; have h2 := HF.out; unfold Right at h1; unfold Fit at h2; omega) _).mono ?_
  rintro e ub7 ⟨v, rfl, ho, hb⟩
  obtain ⟨bA, bc, rfl, hc5, hC5⟩ := Kd.R_reads ho
  have HC := Aside0.mk hC5
  obtain ⟨t0, t1⟩ := T
  have T : (fun w' => Aside0 (w'.heap[w2.heap.size]? = some (.cells #[.int .i64 m.a, .int .i64 m.s, .bool m.b, .int .i64 m.p, .int .i64 m.q, .int .i64 m.n, .int .i64 m.t] 23)) ∧ Aside0 (Below w.heap.size w w')) ub7 := ⟨⟨blk_below t0.out hb⟩, ⟨below_step t1.out hb⟩⟩
  have HO' := Aside0.mk (Kd.R_below HO.out hb)
  clear HO
  refine hK _ _ T ?_
  clear hK K hb ho hC5 hc5 t0 t1
  refine seq_stp rfl (by kernel_rfl) (fun K hK => ?_)
  refine app_b (w := w) (W := ub7) rfl (.tmp 22) (.tmp 25) rfl va7 (([m.k % 256]) ++ (be 2 m.a)) (be 2 m.s) bA (be 2 m.s).length bc rfl rfl HO'.out HC.out T.2.out (by simp [be_len]) ?_
  intro vb7 wvb7 ho hb hg
  have T' : (fun w' => Aside0 (w'.heap[w2.heap.size]? = some (.cells #[.int .i64 m.a, .int .i64 m.s, .bool m.b, .int .i64 m.p, .int .i64 m.q, .int .i64 m.n, .int .i64 m.t] 23)) ∧ Aside0 (Below w.heap.size w w')) wvb7 := ⟨⟨blk_grown T.1.out hg (Kd.R_ne HO'.out T.1.out (by decide))⟩, ⟨hb⟩⟩
  have HO := Aside0.mk ho
  clear HO' HC T
  have T := T'
  clear T'
  refine hK _ _ T ?_
  clear hK K ho hb hg
  refine seq_fr (a' := ?_) ?_ ?_; rotate_left 1; (· go_simp; first | done | with_reducible rfl)
  first | (refine seq_val (v := ?_) (a' := ?_) rfl ?_ ?_ ?_ ?_; rotate_left 2; (· rfl); (· intro w0 hS; go_simp; first | done | with_reducible rfl); (· go_simp; first | done | with_reducible rfl)) | (refine seq_off (a' := ?_) rfl ?_ ?_ ?_; rotate_left 1; (· rfl); (· go_simp; first | done | with_reducible rfl))
  refine seq_nil ?_
  have hs := HS.out
  have x2 := (blk_cell T.1.out 2).trans rfl
  go_wp2_with (first | ((with_reducible refine gate_dst (N := 30) rfl ?_); refine Kd.R_lit (Kd.int .u8) (w0 := _) _ 5 ?hg (N := 30) ?hd (xs := ([1] : List Int)) (inner := [.int .u8 (1)]) (ok := fun _ => True) (okp := fun _ => True) ?hr ?hp (fun _ hk => hk) trivial (Below.refl _ _) (Nat.le_refl _) (by simp) ?_; (case hd => rfl); (case hg => rfl); (case hr => first | (go_simp; done) | (go_simp; rfl)); (case hp => exact (Reps.one (show Kd.M (Kd.int .u8) _ _ _ (1) [.int .u8 (1)] from rfl) (Reps.none _ _))); intro v3 w3 ho hb hg hn; have T3 : (fun w' => Aside0 (w'.heap[w2.heap.size]? = some (.cells #[.int .i64 m.a, .int .i64 m.s, .bool m.b, .int .i64 m.p, .int .i64 m.q, .int .i64 m.n, .int .i64 m.t] 23)) ∧ Aside0 (Below w.heap.size w w')) w3 := ⟨⟨blk_grown T.1.out hg (by intro h; cases h)⟩, ⟨below_step T.2.out hb⟩⟩; have HO3 := Aside0.mk (Kd.R_below HO.out hb); obtain ⟨A5, c5, rfl, hc5, hC5⟩ := Kd.R_reads ho; have HC := Aside0.mk hC5; clear ho hb hg hn T HO hC5 hc5) | ((with_reducible refine gate_builtin (b := .append) (xs := #[.tmp 29, .tmp 30]) rfl ?_); at_builtin; refine Kd.R_append_rows (Kd.int .u8) (w0 := w) w.heap.size rfl (.tmp 29) (.tmp 30) 26 5 (.int .u8 0) 1 rfl Try.underlying26 info5' rfl (by decide) (by omega) vb7 ((([m.k % 256]) ++ (be 2 m.a)) ++ (be 2 m.s)) ([1]) _ _ _ (fun _ => True) (fun _ => False) rfl rfl HO3.out HC.out (fun _ _ h => h) (fun _ h => h.elim) (fun _ _ => trivial) T3.2.out T3.2.out.size (by simp [be_len]) ?_; intro v8 w8 ho hb hg hat; have T : (fun w' => Aside0 (w'.heap[w2.heap.size]? = some (.cells #[.int .i64 m.a, .int .i64 m.s, .bool m.b, .int .i64 m.p, .int .i64 m.q, .int .i64 m.n, .int .i64 m.t] 23)) ∧ Aside0 (Below w.heap.size w w')) w8 := ⟨⟨blk_grown T3.1.out hg (Kd.R_ne HO3.out T3.1.out (by decide))⟩, ⟨hb⟩⟩; have HO := Aside0.mk ho; clear ho hb hg hat T3 HO3 HC))
  clear hs x2
  have T' : (fun w' => Aside0 (w'.heap[w2.heap.size]? = some (.cells #[.int .i64 m.a, .int .i64 m.s, .bool m.b, .int .i64 m.p, .int .i64 m.q, .int .i64 m.n, .int .i64 m.t] 23)) ∧ Aside0 (Below w.heap.size w w')) (World.drew w8) := ⟨⟨blk_drew T.1.out⟩, ⟨T.2.out.drew⟩⟩
  have HO' := Aside0.mk (Kd.R_drew HO.out)
  clear T HO
  have T := T'
  have HO := HO'
  clear T' HO'
  refine wp_region_seq (fun w' => Aside0 (w'.heap[w2.heap.size]? = some (.cells #[.int .i64 m.a, .int .i64 m.s, .bool m.b, .int .i64 m.p, .int .i64 m.q, .int .i64 m.n, .int .i64 m.t] 23)) ∧ Aside0 (Below w.heap.size w w')) [3, 4, 7, 8] [0, 1, 2, 5, 6, 3, 4, 7, 8, 9] (by kernel_rfl) (by kernel_rfl) (by kernel_rfl) (by kernel_rfl) (by kernel_rfl) (fun _ _ d _ _ h => by cases d <;> exact h) ?h0 ?hseq
  case h0 => exact T
  case hseq =>
   first | (refine seq_val (v := ?_) (a' := ?_) rfl ?_ ?_ ?_ ?_; rotate_left 2; (· rfl); (· intro w0 hS; go_simp; first | done | with_reducible rfl); (· go_simp; first | done | with_reducible rfl)) | (refine seq_off (a' := ?_) rfl ?_ ?_ ?_; rotate_left 1; (· rfl); (· go_simp; first | done | with_reducible rfl))
   first | (refine seq_val (v := ?_) (a' := ?_) rfl ?_ ?_ ?_ ?_; rotate_left 2; (· rfl); (· intro w0 hS; go_simp; first | done | with_reducible rfl); (· go_simp; first | done | with_reducible rfl)) | (refine seq_off (a' := ?_) rfl ?_ ?_ ?_; rotate_left 1; (· rfl); (· go_simp; first | done | with_reducible rfl))
   first | (refine seq_val (v := ?_) (a' := ?_) rfl ?_ ?_ ?_ ?_; rotate_left 2; (· rfl); (· intro w0 hS; obtain ⟨s0, s1⟩ := hS; have x := (blk_cell s0.out 3).trans rfl; go_simp; first | done | with_reducible rfl); (· go_simp; first | done | with_reducible rfl)) | (refine seq_off (a' := ?_) rfl ?_ ?_ ?_; rotate_left 1; (· rfl); (· go_simp; first | done | with_reducible rfl))
   first | (refine seq_val (v := ?_) (a' := ?_) rfl ?_ ?_ ?_ ?_; rotate_left 2; (· rfl); (· intro w0 hS; go_simp; first | done | with_reducible rfl); (· go_simp; first | done | with_reducible rfl)) | (refine seq_off (a' := ?_) rfl ?_ ?_ ?_; rotate_left 1; (· rfl); (· go_simp; first | done | with_reducible rfl))
   first | (refine seq_val (v := ?_) (a' := ?_) rfl ?_ ?_ ?_ ?_; rotate_left 2; (· rfl); (· intro w0 hS; obtain ⟨s0, s1⟩ := hS; have x := (blk_cell s0.out 4).trans rfl; go_simp; first | done | with_reducible rfl); (· go_simp; first | done | with_reducible rfl)) | (refine seq_off (a' := ?_) rfl ?_ ?_ ?_; rotate_left 1; (· rfl); (· go_simp; first | done | with_reducible rfl))
   refine seq_op rfl (by kernel_rfl) (by rfl) (fun K hK => ?_)
   go_simp
   go_at_call 67
   refine (num8 m.p (by have := HR.out; unfold Right at this; omega) (by have h1 := HR.out; have h2 := HF.out; unfold Right at h1; unfold Fit at h2; omega) _).mono ?_
   rintro e ua11 ⟨v, rfl, ho, hb⟩
   obtain ⟨aA, ac, rfl, hc5, hC5⟩ := Kd.R_reads ho
   have HC := Aside0.mk hC5
   obtain ⟨t0, t1⟩ := T
   have T : (fun w' => Aside0 (w'.heap[w2.heap.size]? = some (.cells #[.int .i64 m.a, .int .i64 m.s, .bool m.b, .int .i64 m.p, .int .i64 m.q, .int .i64 m.n, .int .i64 m.t] 23)) ∧ Aside0 (Below w.heap.size w w')) ua11 := ⟨⟨blk_below t0.out hb⟩, ⟨below_step t1.out hb⟩⟩
   have HO' := Aside0.mk (Kd.R_below HO.out hb)
   clear HO
   refine hK _ _ T ?_
   clear hK K hb ho hC5 hc5 t0 t1
   refine seq_stp rfl (by kernel_rfl) (fun K hK => ?_)
   refine app_b (w := w) (W := ua11) rfl (.tmp 35) (.tmp 38) rfl v8 (((([m.k % 256]) ++ (be 2 m.a)) ++ (be 2 m.s)) ++ [1]) (be 8 m.p) aA (be 8 m.p).length ac rfl rfl HO'.out HC.out T.2.out (by simp [be_len]) ?_
   intro va11 wva11 ho hb hg
   have T' : (fun w' => Aside0 (w'.heap[w2.heap.size]? = some (.cells #[.int .i64 m.a, .int .i64 m.s, .bool m.b, .int .i64 m.p, .int .i64 m.q, .int .i64 m.n, .int .i64 m.t] 23)) ∧ Aside0 (Below w.heap.size w w')) wva11 := ⟨⟨blk_grown T.1.out hg (Kd.R_ne HO'.out T.1.out (by decide))⟩, ⟨hb⟩⟩
   have HO := Aside0.mk ho
   clear HO' HC T
   have T := T'
   clear T'
   refine hK _ _ T ?_
   clear hK K ho hb hg
   refine seq_fr (a' := ?_) ?_ ?_; rotate_left 1; (· go_simp; first | done | with_reducible rfl)
   refine seq_op rfl (by kernel_rfl) (by rfl) (fun K hK => ?_)
   go_simp
   go_at_call 67
   refine (num8 m.q (by have := HR.out; unfold Right at this; omega) (by have h1 := HR.out; have h2 := HF.out; unfold Right at h1; unfold Fit at h2; omega) _).mono ?_
   rintro e ub11 ⟨v, rfl, ho, hb⟩
   obtain ⟨bA, bc, rfl, hc5, hC5⟩ := Kd.R_reads ho
   have HC := Aside0.mk hC5
   obtain ⟨t0, t1⟩ := T
   have T : (fun w' => Aside0 (w'.heap[w2.heap.size]? = some (.cells #[.int .i64 m.a, .int .i64 m.s, .bool m.b, .int .i64 m.p, .int .i64 m.q, .int .i64 m.n, .int .i64 m.t] 23)) ∧ Aside0 (Below w.heap.size w w')) ub11 := ⟨⟨blk_below t0.out hb⟩, ⟨below_step t1.out hb⟩⟩
   have HO' := Aside0.mk (Kd.R_below HO.out hb)
   clear HO
   refine hK _ _ T ?_
   clear hK K hb ho hC5 hc5 t0 t1
   refine seq_stp rfl (by kernel_rfl) (fun K hK => ?_)
   refine app_b (w := w) (W := ub11) rfl (.tmp 39) (.tmp 42) rfl va11 ((((([m.k % 256]) ++ (be 2 m.a)) ++ (be 2 m.s)) ++ [1]) ++ (be 8 m.p)) (be 8 m.q) bA (be 8 m.q).length bc rfl rfl HO'.out HC.out T.2.out (by simp [be_len]) ?_
   intro vb11 wvb11 ho hb hg
   have T' : (fun w' => Aside0 (w'.heap[w2.heap.size]? = some (.cells #[.int .i64 m.a, .int .i64 m.s, .bool m.b, .int .i64 m.p, .int .i64 m.q, .int .i64 m.n, .int .i64 m.t] 23)) ∧ Aside0 (Below w.heap.size w w')) wvb11 := ⟨⟨blk_grown T.1.out hg (Kd.R_ne HO'.out T.1.out (by decide))⟩, ⟨hb⟩⟩
   have HO := Aside0.mk ho
   clear HO' HC T
   have T := T'
   clear T'
   refine hK _ _ T ?_
   clear hK K ho hb hg
   refine seq_fr (a' := ?_) ?_ ?_; rotate_left 1; (· go_simp; first | done | with_reducible rfl)
   first | (refine seq_val (v := ?_) (a' := ?_) rfl ?_ ?_ ?_ ?_; rotate_left 2; (· rfl); (· intro w0 hS; go_simp; first | done | with_reducible rfl); (· go_simp; first | done | with_reducible rfl)) | (refine seq_off (a' := ?_) rfl ?_ ?_ ?_; rotate_left 1; (· rfl); (· go_simp; first | done | with_reducible rfl))
   refine seq_nil ?_
   go_wp2_with (fail)
   have T' : (fun w' => Aside0 (w'.heap[w2.heap.size]? = some (.cells #[.int .i64 m.a, .int .i64 m.s, .bool m.b, .int .i64 m.p, .int .i64 m.q, .int .i64 m.n, .int .i64 m.t] 23)) ∧ Aside0 (Below w.heap.size w w')) (World.drew wvb11) := ⟨⟨blk_drew T.1.out⟩, ⟨T.2.out.drew⟩⟩
   have HO' := Aside0.mk (Kd.R_drew HO.out)
   clear T HO
   have T := T'
   have HO := HO'
   clear T' HO'
   refine wp_region_seq (fun w' => Aside0 (w'.heap[w2.heap.size]? = some (.cells #[.int .i64 m.a, .int .i64 m.s, .bool m.b, .int .i64 m.p, .int .i64 m.q, .int .i64 m.n, .int .i64 m.t] 23)) ∧ Aside0 (Below w.heap.size w w')) [3, 4, 7, 8] [0, 1, 2, 5, 6, 3, 4, 7, 8, 9] (by kernel_rfl) (by kernel_rfl) (by kernel_rfl) (by kernel_rfl) (by kernel_rfl) (fun _ _ d _ _ h => by cases d <;> exact h) ?h0 ?hseq
   case h0 => exact T
   case hseq =>
    first | (refine seq_val (v := ?_) (a' := ?_) rfl ?_ ?_ ?_ ?_; rotate_left 2; (· rfl); (· intro w0 hS; go_simp; first | done | with_reducible rfl); (· go_simp; first | done | with_reducible rfl)) | (refine seq_off (a' := ?_) rfl ?_ ?_ ?_; rotate_left 1; (· rfl); (· go_simp; first | done | with_reducible rfl))
    first | (refine seq_val (v := ?_) (a' := ?_) rfl ?_ ?_ ?_ ?_; rotate_left 2; (· rfl); (· intro w0 hS; go_simp; first | done | with_reducible rfl); (· go_simp; first | done | with_reducible rfl)) | (refine seq_off (a' := ?_) rfl ?_ ?_ ?_; rotate_left 1; (· rfl); (· go_simp; first | done | with_reducible rfl))
    first | (refine seq_val (v := ?_) (a' := ?_) rfl ?_ ?_ ?_ ?_; rotate_left 2; (· rfl); (· intro w0 hS; obtain ⟨s0, s1⟩ := hS; have x := (blk_cell s0.out 5).trans rfl; go_simp; first | done | with_reducible rfl); (· go_simp; first | done | with_reducible rfl)) | (refine seq_off (a' := ?_) rfl ?_ ?_ ?_; rotate_left 1; (· rfl); (· go_simp; first | done | with_reducible rfl))
    first | (refine seq_val (v := ?_) (a' := ?_) rfl ?_ ?_ ?_ ?_; rotate_left 2; (· rfl); (· intro w0 hS; go_simp; first | done | with_reducible rfl); (· go_simp; first | done | with_reducible rfl)) | (refine seq_off (a' := ?_) rfl ?_ ?_ ?_; rotate_left 1; (· rfl); (· go_simp; first | done | with_reducible rfl))
    first | (refine seq_val (v := ?_) (a' := ?_) rfl ?_ ?_ ?_ ?_; rotate_left 2; (· rfl); (· intro w0 hS; obtain ⟨s0, s1⟩ := hS; have x := (blk_cell s0.out 6).trans rfl; go_simp; first | done | with_reducible rfl); (· go_simp; first | done | with_reducible rfl)) | (refine seq_off (a' := ?_) rfl ?_ ?_ ?_; rotate_left 1; (· rfl); (· go_simp; first | done | with_reducible rfl))
    refine seq_op rfl (by kernel_rfl) (by rfl) (fun K hK => ?_)
    go_simp
    go_at_call 67
    refine (num8 m.n (by have := HR.out; unfold Right at this; omega) (by have h1 := HR.out; have h2 := HF.out; unfold Right at h1; unfold Fit at h2; omega) _).mono ?_
    rintro e ua12 ⟨v, rfl, ho, hb⟩
    obtain ⟨aA, ac, rfl, hc5, hC5⟩ := Kd.R_reads ho
    have HC := Aside0.mk hC5
    obtain ⟨t0, t1⟩ := T
    have T : (fun w' => Aside0 (w'.heap[w2.heap.size]? = some (.cells #[.int .i64 m.a, .int .i64 m.s, .bool m.b, .int .i64 m.p, .int .i64 m.q, .int .i64 m.n, .int .i64 m.t] 23)) ∧ Aside0 (Below w.heap.size w w')) ua12 := ⟨⟨blk_below t0.out hb⟩, ⟨below_step t1.out hb⟩⟩
    have HO' := Aside0.mk (Kd.R_below HO.out hb)
    clear HO
    refine hK _ _ T ?_
    clear hK K hb ho hC5 hc5 t0 t1
    refine seq_stp rfl (by kernel_rfl) (fun K hK => ?_)
    refine app_b (w := w) (W := ua12) rfl (.tmp 44) (.tmp 47) rfl vb11 (((((([m.k % 256]) ++ (be 2 m.a)) ++ (be 2 m.s)) ++ [1]) ++ (be 8 m.p)) ++ (be 8 m.q)) (be 8 m.n) aA (be 8 m.n).length ac rfl rfl HO'.out HC.out T.2.out (by simp [be_len]) ?_
    intro va12 wva12 ho hb hg
    have T' : (fun w' => Aside0 (w'.heap[w2.heap.size]? = some (.cells #[.int .i64 m.a, .int .i64 m.s, .bool m.b, .int .i64 m.p, .int .i64 m.q, .int .i64 m.n, .int .i64 m.t] 23)) ∧ Aside0 (Below w.heap.size w w')) wva12 := ⟨⟨blk_grown T.1.out hg (Kd.R_ne HO'.out T.1.out (by decide))⟩, ⟨hb⟩⟩
    have HO := Aside0.mk ho
    clear HO' HC T
    have T := T'
    clear T'
    refine hK _ _ T ?_
    clear hK K ho hb hg
    refine seq_fr (a' := ?_) ?_ ?_; rotate_left 1; (· go_simp; first | done | with_reducible rfl)
    refine seq_op rfl (by kernel_rfl) (by rfl) (fun K hK => ?_)
    go_simp
    go_at_call 67
    refine (num8 m.t (by have := HR.out; unfold Right at this; omega) (by have h1 := HR.out; have h2 := HF.out; unfold Right at h1; unfold Fit at h2; omega) _).mono ?_
    rintro e ub12 ⟨v, rfl, ho, hb⟩
    obtain ⟨bA, bc, rfl, hc5, hC5⟩ := Kd.R_reads ho
    have HC := Aside0.mk hC5
    obtain ⟨t0, t1⟩ := T
    have T : (fun w' => Aside0 (w'.heap[w2.heap.size]? = some (.cells #[.int .i64 m.a, .int .i64 m.s, .bool m.b, .int .i64 m.p, .int .i64 m.q, .int .i64 m.n, .int .i64 m.t] 23)) ∧ Aside0 (Below w.heap.size w w')) ub12 := ⟨⟨blk_below t0.out hb⟩, ⟨below_step t1.out hb⟩⟩
    have HO' := Aside0.mk (Kd.R_below HO.out hb)
    clear HO
    refine hK _ _ T ?_
    clear hK K hb ho hC5 hc5 t0 t1
    refine seq_stp rfl (by kernel_rfl) (fun K hK => ?_)
    refine app_b (w := w) (W := ub12) rfl (.tmp 48) (.tmp 51) rfl va12 ((((((([m.k % 256]) ++ (be 2 m.a)) ++ (be 2 m.s)) ++ [1]) ++ (be 8 m.p)) ++ (be 8 m.q)) ++ (be 8 m.n)) (be 8 m.t) bA (be 8 m.t).length bc rfl rfl HO'.out HC.out T.2.out (by simp [be_len]) ?_
    intro vb12 wvb12 ho hb hg
    have T' : (fun w' => Aside0 (w'.heap[w2.heap.size]? = some (.cells #[.int .i64 m.a, .int .i64 m.s, .bool m.b, .int .i64 m.p, .int .i64 m.q, .int .i64 m.n, .int .i64 m.t] 23)) ∧ Aside0 (Below w.heap.size w w')) wvb12 := ⟨⟨blk_grown T.1.out hg (Kd.R_ne HO'.out T.1.out (by decide))⟩, ⟨hb⟩⟩
    have HO := Aside0.mk ho
    clear HO' HC T
    have T := T'
    clear T'
    refine hK _ _ T ?_
    clear hK K ho hb hg
    refine seq_fr (a' := ?_) ?_ ?_; rotate_left 1; (· go_simp; first | done | with_reducible rfl)
    first | (refine seq_val (v := ?_) (a' := ?_) rfl ?_ ?_ ?_ ?_; rotate_left 2; (· rfl); (· intro w0 hS; go_simp; first | done | with_reducible rfl); (· go_simp; first | done | with_reducible rfl)) | (refine seq_off (a' := ?_) rfl ?_ ?_ ?_; rotate_left 1; (· rfl); (· go_simp; first | done | with_reducible rfl))
    refine seq_nil ?_
    go_wp2_with (fail)
    go_ret
    refine ⟨_, rfl, ?_, T.2.out⟩
    have hl : enc m = ((((((([m.k % 256]) ++ (be 2 m.a)) ++ (be 2 m.s)) ++ [1]) ++ (be 8 m.p)) ++ (be 8 m.q)) ++ (be 8 m.n)) ++ (be 8 m.t) := by simp [enc, body, be1, HK.out, HS.out]
    rw [hl]
    exact HO.out
set_option maxHeartbeats 8000000 in
set_option maxRecDepth 100000 in
theorem renc_0f (m : Msg) (h : Right m) (hf : Fit m) (hk : m.k = 0) (hs : m.b = false) (w : World) : Calls Try.prog 21 #[m.v] w (EncP w (enc m)) := by
 have HR := Aside0.mk h
 have HF := Aside0.mk hf
 have HK := Aside0.mk hk
 have HS := Aside0.mk hs
 clear hk hs
 clear h hf
 go_enter Try.func21, Try.ntmps21
 unfold Msg.v
 go_wp2_with (fail)
 refine (rright_ m _).mono ?_
 rintro e u1 ⟨⟨r, rfl, hr⟩, hb⟩
 obtain rfl : r = true := hr.2 HR.out
 have B1 := Aside0.mk (blk_below (new_at w (.cells #[.int .i64 m.k, .int .i64 m.a, .int .i64 m.s, .bool m.b, .int .i64 m.p, .int .i64 m.q, .int .i64 m.n, .int .i64 m.t, .int .i64 m.i, .int .i64 m.y, .int .i64 m.d, .int .i64 m.m] 25) _ rfl) hb)
 have HB := Aside0.mk (below_step ((Below.refl w.heap.size w).alloc (Nat.le_refl _) (.cells #[.int .i64 m.k, .int .i64 m.a, .int .i64 m.s, .bool m.b, .int .i64 m.p, .int .i64 m.q, .int .i64 m.n, .int .i64 m.t, .int .i64 m.i, .int .i64 m.y, .int .i64 m.d, .int .i64 m.m] 25)) hb)
 clear hb hr
 have x0 := (blk_cell B1.out 0).trans rfl
 go_wp2_with ((with_reducible refine gate_dst (N := 11) rfl ?_); refine Kd.R_lit (Kd.int .u8) (w0 := w) w.heap.size 5 ?hg (N := 11) ?hd (xs := ([m.k % 256] : List Int)) (inner := [.int .u8 (m.k % 256)]) (ok := fun _ => True) (okp := fun _ => True) ?hr ?hp (fun _ hk => hk) trivial HB.out HB.out.size (by simp) ?_; (case hd => rfl); (case hg => rfl); (case hr => first | (go_simp; done) | (go_simp; rfl)); (case hp => exact (Reps.one (show Kd.M (Kd.int .u8) _ _ _ (m.k % 256) [.int .u8 (m.k % 256)] from rfl) (Reps.none _ _))); intro v1 w2 ho hb hg hn; have B2 := Aside0.mk (blk_grown B1.out hg (by intro h; cases h)); have HO := Aside0.mk ho; have HB2 := Aside0.mk hb; clear ho hb hg hn B1 HB; refine stop_ ?_)
 unfold Stop
 clear x0
 have hk := HK.out
 have x0 := (blk_cell B2.out 0).trans rfl
 have x1 := (blk_cell B2.out 1).trans rfl
 have x2 := (blk_cell B2.out 2).trans rfl
 have x3 := (blk_cell B2.out 3).trans rfl
 have x4 := (blk_cell B2.out 4).trans rfl
 have x5 := (blk_cell B2.out 5).trans rfl
 have x6 := (blk_cell B2.out 6).trans rfl
 have x7 := (blk_cell B2.out 7).trans rfl
 go_wp2_with (fail)
 clear hk x0 x1 x2 x3 x4 x5 x6 x7
 have T : (fun w' => Aside0 (w'.heap[w2.heap.size]? = some (.cells #[.int .i64 m.a, .int .i64 m.s, .bool m.b, .int .i64 m.p, .int .i64 m.q, .int .i64 m.n, .int .i64 m.t] 23)) ∧ Aside0 (Below w.heap.size w w')) (World.drew (w2.alloc (.cells #[.int .i64 m.a, .int .i64 m.s, .bool m.b, .int .i64 m.p, .int .i64 m.q, .int .i64 m.n, .int .i64 m.t] 23))) := ⟨⟨blk_drew (new_at _ _ _ rfl)⟩, ⟨(HB2.out.alloc (below_size HB2.out) _).drew⟩⟩
 have HO' := Aside0.mk (Kd.R_drew (Kd.R_alloc HO.out (.cells #[.int .i64 m.a, .int .i64 m.s, .bool m.b, .int .i64 m.p, .int .i64 m.q, .int .i64 m.n, .int .i64 m.t] 23)))
 clear HO B2 HB2
 have HO := HO'
 clear HO'
 refine wp_region_seq (fun w' => Aside0 (w'.heap[w2.heap.size]? = some (.cells #[.int .i64 m.a, .int .i64 m.s, .bool m.b, .int .i64 m.p, .int .i64 m.q, .int .i64 m.n, .int .i64 m.t] 23)) ∧ Aside0 (Below w.heap.size w w')) [3, 4, 7, 8] [0, 1, 2, 5, 6, 3, 4, 7, 8, 9] (by kernel_rfl) (by kernel_rfl) (by kernel_rfl) (by kernel_rfl) (by kernel_rfl) (fun _ _ d _ _ h => by cases d <;> exact h) ?h0 ?hseq
 case h0 => exact T
 case hseq =>
  first | (refine seq_val (v := ?_) (a' := ?_) rfl ?_ ?_ ?_ ?_; rotate_left 2; (· rfl); (· intro w0 hS; go_simp; first | done | with_reducible rfl); (· go_simp; first | done | with_reducible rfl)) | (refine seq_off (a' := ?_) rfl ?_ ?_ ?_; rotate_left 1; (· rfl); (· go_simp; first | done | with_reducible rfl))
  first | (refine seq_val (v := ?_) (a' := ?_) rfl ?_ ?_ ?_ ?_; rotate_left 2; (· rfl); (· intro w0 hS; go_simp; first | done | with_reducible rfl); (· go_simp; first | done | with_reducible rfl)) | (refine seq_off (a' := ?_) rfl ?_ ?_ ?_; rotate_left 1; (· rfl); (· go_simp; first | done | with_reducible rfl))
  first | (refine seq_val (v := ?_) (a' := ?_) rfl ?_ ?_ ?_ ?_; rotate_left 2; (· rfl); (· intro w0 hS; obtain ⟨s0, s1⟩ := hS; have x := (blk_cell s0.out 0).trans rfl; go_simp; first | done | with_reducible rfl); (· go_simp; first | done | with_reducible rfl)) | (refine seq_off (a' := ?_) rfl ?_ ?_ ?_; rotate_left 1; (· rfl); (· go_simp; first | done | with_reducible rfl))
  first | (refine seq_val (v := ?_) (a' := ?_) rfl ?_ ?_ ?_ ?_; rotate_left 2; (· rfl); (· intro w0 hS; go_simp; first | done | with_reducible rfl); (· go_simp; first | done | with_reducible rfl)) | (refine seq_off (a' := ?_) rfl ?_ ?_ ?_; rotate_left 1; (· rfl); (· go_simp; first | done | with_reducible rfl))
  first | (refine seq_val (v := ?_) (a' := ?_) rfl ?_ ?_ ?_ ?_; rotate_left 2; (· rfl); (· intro w0 hS; obtain ⟨s0, s1⟩ := hS; have x := (blk_cell s0.out 1).trans rfl; go_simp; first | done | with_reducible rfl); (· go_simp; first | done | with_reducible rfl)) | (refine seq_off (a' := ?_) rfl ?_ ?_ ?_; rotate_left 1; (· rfl); (· go_simp; first | done | with_reducible rfl))
  refine seq_op rfl (by kernel_rfl) (by rfl) (fun K hK => ?_)
  go_simp
  go_at_call 67
  refine (num2 m.a (by have := HR.out; unfold Right at this; omega) (by have h1 := HR.out; have h2 := HF.out; unfold Right at h1; unfold Fit at h2; omega) _).mono ?_
  rintro e ua7 ⟨v, rfl, ho, hb⟩
  obtain ⟨aA, ac, rfl, hc5, hC5⟩ := Kd.R_reads ho
  have HC := Aside0.mk hC5
  obtain ⟨t0, t1⟩ := T
  have T : (fun w' => Aside0 (w'.heap[w2.heap.size]? = some (.cells #[.int .i64 m.a, .int .i64 m.s, .bool m.b, .int .i64 m.p, .int .i64 m.q, .int .i64 m.n, .int .i64 m.t] 23)) ∧ Aside0 (Below w.heap.size w w')) ua7 := ⟨⟨blk_below t0.out hb⟩, ⟨below_step t1.out hb⟩⟩
  have HO' := Aside0.mk (Kd.R_below HO.out hb)
  clear HO
  refine hK _ _ T ?_
  clear hK K hb ho hC5 hc5 t0 t1
  refine seq_stp rfl (by kernel_rfl) (fun K hK => ?_)
  refine app_b (w := w) (W := ua7) rfl (.tmp 18) (.tmp 21) rfl v1 ([m.k % 256]) (be 2 m.a) aA (be 2 m.a).length ac rfl rfl HO'.out HC.out T.2.out (by simp [be_len]) ?_
  intro va7 wva7 ho hb hg
  have T' : (fun w' => Aside0 (w'.heap[w2.heap.size]? = some (.cells #[.int .i64 m.a, .int .i64 m.s, .bool m.b, .int .i64 m.p, .int .i64 m.q, .int .i64 m.n, .int .i64 m.t] 23)) ∧ Aside0 (Below w.heap.size w w')) wva7 := ⟨⟨blk_grown T.1.out hg (Kd.R_ne HO'.out T.1.out (by decide))⟩, ⟨hb⟩⟩
  have HO := Aside0.mk ho
  clear HO' HC T
  have T := T'
  clear T'
  refine hK _ _ T ?_
  clear hK K ho hb hg
  refine seq_fr (a' := ?_) ?_ ?_; rotate_left 1; (· go_simp; first | done | with_reducible rfl)
  refine seq_op rfl (by kernel_rfl) (by rfl) (fun K hK => ?_)
  go_simp
  go_at_call 67
  refine (num2 m.s (by have := HR.out; unfold Right at this; omega) (by have h1 := HR.out; have h2 := HF.out; unfold Right at h1; unfold Fit at h2; omega) _).mono ?_
  rintro e ub7 ⟨v, rfl, ho, hb⟩
  obtain ⟨bA, bc, rfl, hc5, hC5⟩ := Kd.R_reads ho
  have HC := Aside0.mk hC5
  obtain ⟨t0, t1⟩ := T
  have T : (fun w' => Aside0 (w'.heap[w2.heap.size]? = some (.cells #[.int .i64 m.a, .int .i64 m.s, .bool m.b, .int .i64 m.p, .int .i64 m.q, .int .i64 m.n, .int .i64 m.t] 23)) ∧ Aside0 (Below w.heap.size w w')) ub7 := ⟨⟨blk_below t0.out hb⟩, ⟨below_step t1.out hb⟩⟩
  have HO' := Aside0.mk (Kd.R_below HO.out hb)
  clear HO
  refine hK _ _ T ?_
  clear hK K hb ho hC5 hc5 t0 t1
  refine seq_stp rfl (by kernel_rfl) (fun K hK => ?_)
  refine app_b (w := w) (W := ub7) rfl (.tmp 22) (.tmp 25) rfl va7 (([m.k % 256]) ++ (be 2 m.a)) (be 2 m.s) bA (be 2 m.s).length bc rfl rfl HO'.out HC.out T.2.out (by simp [be_len]) ?_
  intro vb7 wvb7 ho hb hg
  have T' : (fun w' => Aside0 (w'.heap[w2.heap.size]? = some (.cells #[.int .i64 m.a, .int .i64 m.s, .bool m.b, .int .i64 m.p, .int .i64 m.q, .int .i64 m.n, .int .i64 m.t] 23)) ∧ Aside0 (Below w.heap.size w w')) wvb7 := ⟨⟨blk_grown T.1.out hg (Kd.R_ne HO'.out T.1.out (by decide))⟩, ⟨hb⟩⟩
  have HO := Aside0.mk ho
  clear HO' HC T
  have T := T'
  clear T'
  refine hK _ _ T ?_
  clear hK K ho hb hg
  refine seq_fr (a' := ?_) ?_ ?_; rotate_left 1; (· go_simp; first | done | with_reducible rfl)
  first | (refine seq_val (v := ?_) (a' := ?_) rfl ?_ ?_ ?_ ?_; rotate_left 2; (· rfl); (· intro w0 hS; go_simp; first | done | with_reducible rfl); (· go_simp; first | done | with_reducible rfl)) | (refine seq_off (a' := ?_) rfl ?_ ?_ ?_; rotate_left 1; (· rfl); (· go_simp; first | done | with_reducible rfl))
  refine seq_nil ?_
  have hs := HS.out
  have x2 := (blk_cell T.1.out 2).trans rfl
  go_wp2_with (first | ((with_reducible refine gate_dst (N := 33) rfl ?_); refine Kd.R_lit (Kd.int .u8) (w0 := _) _ 5 ?hg (N := 33) ?hd (xs := ([0] : List Int)) (inner := [.int .u8 (0)]) (ok := fun _ => True) (okp := fun _ => True) ?hr ?hp (fun _ hk => hk) trivial (Below.refl _ _) (Nat.le_refl _) (by simp) ?_; (case hd => rfl); (case hg => rfl); (case hr => first | (go_simp; done) | (go_simp; rfl)); (case hp => exact (Reps.one (show Kd.M (Kd.int .u8) _ _ _ (0) [.int .u8 (0)] from rfl) (Reps.none _ _))); intro v3 w3 ho hb hg hn; have T3 : (fun w' => Aside0 (w'.heap[w2.heap.size]? = some (.cells #[.int .i64 m.a, .int .i64 m.s, .bool m.b, .int .i64 m.p, .int .i64 m.q, .int .i64 m.n, .int .i64 m.t] 23)) ∧ Aside0 (Below w.heap.size w w')) w3 := ⟨⟨blk_grown T.1.out hg (by intro h; cases h)⟩, ⟨below_step T.2.out hb⟩⟩; have HO3 := Aside0.mk (Kd.R_below HO.out hb); obtain ⟨A5, c5, rfl, hc5, hC5⟩ := Kd.R_reads ho; have HC := Aside0.mk hC5; clear ho hb hg hn T HO hC5 hc5) | ((with_reducible refine gate_builtin (b := .append) (xs := #[.tmp 32, .tmp 33]) rfl ?_); at_builtin; refine Kd.R_append_rows (Kd.int .u8) (w0 := w) w.heap.size rfl (.tmp 32) (.tmp 33) 26 5 (.int .u8 0) 1 rfl Try.underlying26 info5' rfl (by decide) (by omega) vb7 ((([m.k % 256]) ++ (be 2 m.a)) ++ (be 2 m.s)) ([0]) _ _ _ (fun _ => True) (fun _ => False) rfl rfl HO3.out HC.out (fun _ _ h => h) (fun _ h => h.elim) (fun _ _ => trivial) T3.2.out T3.2.out.size (by simp [be_len]) ?_; intro v8 w8 ho hb hg hat; have T : (fun w' => Aside0 (w'.heap[w2.heap.size]? = some (.cells #[.int .i64 m.a, .int .i64 m.s, .bool m.b, .int .i64 m.p, .int .i64 m.q, .int .i64 m.n, .int .i64 m.t] 23)) ∧ Aside0 (Below w.heap.size w w')) w8 := ⟨⟨blk_grown T3.1.out hg (Kd.R_ne HO3.out T3.1.out (by decide))⟩, ⟨hb⟩⟩; have HO := Aside0.mk ho; clear ho hb hg hat T3 HO3 HC))
  clear hs x2
  have T' : (fun w' => Aside0 (w'.heap[w2.heap.size]? = some (.cells #[.int .i64 m.a, .int .i64 m.s, .bool m.b, .int .i64 m.p, .int .i64 m.q, .int .i64 m.n, .int .i64 m.t] 23)) ∧ Aside0 (Below w.heap.size w w')) (World.drew w8) := ⟨⟨blk_drew T.1.out⟩, ⟨T.2.out.drew⟩⟩
  have HO' := Aside0.mk (Kd.R_drew HO.out)
  clear T HO
  have T := T'
  have HO := HO'
  clear T' HO'
  refine wp_region_seq (fun w' => Aside0 (w'.heap[w2.heap.size]? = some (.cells #[.int .i64 m.a, .int .i64 m.s, .bool m.b, .int .i64 m.p, .int .i64 m.q, .int .i64 m.n, .int .i64 m.t] 23)) ∧ Aside0 (Below w.heap.size w w')) [3, 4, 7, 8] [0, 1, 2, 5, 6, 3, 4, 7, 8, 9] (by kernel_rfl) (by kernel_rfl) (by kernel_rfl) (by kernel_rfl) (by kernel_rfl) (fun _ _ d _ _ h => by cases d <;> exact h) ?h0 ?hseq
  case h0 => exact T
  case hseq =>
   first | (refine seq_val (v := ?_) (a' := ?_) rfl ?_ ?_ ?_ ?_; rotate_left 2; (· rfl); (· intro w0 hS; go_simp; first | done | with_reducible rfl); (· go_simp; first | done | with_reducible rfl)) | (refine seq_off (a' := ?_) rfl ?_ ?_ ?_; rotate_left 1; (· rfl); (· go_simp; first | done | with_reducible rfl))
   first | (refine seq_val (v := ?_) (a' := ?_) rfl ?_ ?_ ?_ ?_; rotate_left 2; (· rfl); (· intro w0 hS; go_simp; first | done | with_reducible rfl); (· go_simp; first | done | with_reducible rfl)) | (refine seq_off (a' := ?_) rfl ?_ ?_ ?_; rotate_left 1; (· rfl); (· go_simp; first | done | with_reducible rfl))
   first | (refine seq_val (v := ?_) (a' := ?_) rfl ?_ ?_ ?_ ?_; rotate_left 2; (· rfl); (· intro w0 hS; obtain ⟨s0, s1⟩ := hS; have x := (blk_cell s0.out 3).trans rfl; go_simp; first | done | with_reducible rfl); (· go_simp; first | done | with_reducible rfl)) | (refine seq_off (a' := ?_) rfl ?_ ?_ ?_; rotate_left 1; (· rfl); (· go_simp; first | done | with_reducible rfl))
   first | (refine seq_val (v := ?_) (a' := ?_) rfl ?_ ?_ ?_ ?_; rotate_left 2; (· rfl); (· intro w0 hS; go_simp; first | done | with_reducible rfl); (· go_simp; first | done | with_reducible rfl)) | (refine seq_off (a' := ?_) rfl ?_ ?_ ?_; rotate_left 1; (· rfl); (· go_simp; first | done | with_reducible rfl))
   first | (refine seq_val (v := ?_) (a' := ?_) rfl ?_ ?_ ?_ ?_; rotate_left 2; (· rfl); (· intro w0 hS; obtain ⟨s0, s1⟩ := hS; have x := (blk_cell s0.out 4).trans rfl; go_simp; first | done | with_reducible rfl); (· go_simp; first | done | with_reducible rfl)) | (refine seq_off (a' := ?_) rfl ?_ ?_ ?_; rotate_left 1; (· rfl); (· go_simp; first | done | with_reducible rfl))
   refine seq_op rfl (by kernel_rfl) (by rfl) (fun K hK => ?_)
   go_simp
   go_at_call 67
   refine (num8 m.p (by have := HR.out; unfold Right at this; omega) (by have h1 := HR.out; have h2 := HF.out; unfold Right at h1; unfold Fit at h2; omega) _).mono ?_
   rintro e ua11 ⟨v, rfl, ho, hb⟩
   obtain ⟨aA, ac, rfl, hc5, hC5⟩ := Kd.R_reads ho
   have HC := Aside0.mk hC5
   obtain ⟨t0, t1⟩ := T
   have T : (fun w' => Aside0 (w'.heap[w2.heap.size]? = some (.cells #[.int .i64 m.a, .int .i64 m.s, .bool m.b, .int .i64 m.p, .int .i64 m.q, .int .i64 m.n, .int .i64 m.t] 23)) ∧ Aside0 (Below w.heap.size w w')) ua11 := ⟨⟨blk_below t0.out hb⟩, ⟨below_step t1.out hb⟩⟩
   have HO' := Aside0.mk (Kd.R_below HO.out hb)
   clear HO
   refine hK _ _ T ?_
   clear hK K hb ho hC5 hc5 t0 t1
   refine seq_stp rfl (by kernel_rfl) (fun K hK => ?_)
   refine app_b (w := w) (W := ua11) rfl (.tmp 35) (.tmp 38) rfl v8 (((([m.k % 256]) ++ (be 2 m.a)) ++ (be 2 m.s)) ++ [0]) (be 8 m.p) aA (be 8 m.p).length ac rfl rfl HO'.out HC.out T.2.out (by simp [be_len]) ?_
   intro va11 wva11 ho hb hg
   have T' : (fun w' => Aside0 (w'.heap[w2.heap.size]? = some (.cells #[.int .i64 m.a, .int .i64 m.s, .bool m.b, .int .i64 m.p, .int .i64 m.q, .int .i64 m.n, .int .i64 m.t] 23)) ∧ Aside0 (Below w.heap.size w w')) wva11 := ⟨⟨blk_grown T.1.out hg (Kd.R_ne HO'.out T.1.out (by decide))⟩, ⟨hb⟩⟩
   have HO := Aside0.mk ho
   clear HO' HC T
   have T := T'
   clear T'
   refine hK _ _ T ?_
   clear hK K ho hb hg
   refine seq_fr (a' := ?_) ?_ ?_; rotate_left 1; (· go_simp; first | done | with_reducible rfl)
   refine seq_op rfl (by kernel_rfl) (by rfl) (fun K hK => ?_)
   go_simp
   go_at_call 67
   refine (num8 m.q (by have := HR.out; unfold Right at this; omega) (by have h1 := HR.out; have h2 := HF.out; unfold Right at h1; unfold Fit at h2; omega) _).mono ?_
   rintro e ub11 ⟨v, rfl, ho, hb⟩
   obtain ⟨bA, bc, rfl, hc5, hC5⟩ := Kd.R_reads ho
   have HC := Aside0.mk hC5
   obtain ⟨t0, t1⟩ := T
   have T : (fun w' => Aside0 (w'.heap[w2.heap.size]? = some (.cells #[.int .i64 m.a, .int .i64 m.s, .bool m.b, .int .i64 m.p, .int .i64 m.q, .int .i64 m.n, .int .i64 m.t] 23)) ∧ Aside0 (Below w.heap.size w w')) ub11 := ⟨⟨blk_below t0.out hb⟩, ⟨below_step t1.out hb⟩⟩
   have HO' := Aside0.mk (Kd.R_below HO.out hb)
   clear HO
   refine hK _ _ T ?_
   clear hK K hb ho hC5 hc5 t0 t1
   refine seq_stp rfl (by kernel_rfl) (fun K hK => ?_)
   refine app_b (w := w) (W := ub11) rfl (.tmp 39) (.tmp 42) rfl va11 ((((([m.k % 256]) ++ (be 2 m.a)) ++ (be 2 m.s)) ++ [0]) ++ (be 8 m.p)) (be 8 m.q) bA (be 8 m.q).length bc rfl rfl HO'.out HC.out T.2.out (by simp [be_len]) ?_
   intro vb11 wvb11 ho hb hg
   have T' : (fun w' => Aside0 (w'.heap[w2.heap.size]? = some (.cells #[.int .i64 m.a, .int .i64 m.s, .bool m.b, .int .i64 m.p, .int .i64 m.q, .int .i64 m.n, .int .i64 m.t] 23)) ∧ Aside0 (Below w.heap.size w w')) wvb11 := ⟨⟨blk_grown T.1.out hg (Kd.R_ne HO'.out T.1.out (by decide))⟩, ⟨hb⟩⟩
   have HO := Aside0.mk ho
   clear HO' HC T
   have T := T'
   clear T'
   refine hK _ _ T ?_
   clear hK K ho hb hg
   refine seq_fr (a' := ?_) ?_ ?_; rotate_left 1; (· go_simp; first | done | with_reducible rfl)
   first | (refine seq_val (v := ?_) (a' := ?_) rfl ?_ ?_ ?_ ?_; rotate_left 2; (· rfl); (· intro w0 hS; go_simp; first | done | with_reducible rfl); (· go_simp; first | done | with_reducible rfl)) | (refine seq_off (a' := ?_) rfl ?_ ?_ ?_; rotate_left 1; (· rfl); (· go_simp; first | done | with_reducible rfl))
   refine seq_nil ?_
   go_wp2_with (fail)
   have T' : (fun w' => Aside0 (w'.heap[w2.heap.size]? = some (.cells #[.int .i64 m.a, .int .i64 m.s, .bool m.b, .int .i64 m.p, .int .i64 m.q, .int .i64 m.n, .int .i64 m.t] 23)) ∧ Aside0 (Below w.heap.size w w')) (World.drew wvb11) := ⟨⟨blk_drew T.1.out⟩, ⟨T.2.out.drew⟩⟩
   have HO' := Aside0.mk (Kd.R_drew HO.out)
   clear T HO
   have T := T'
   have HO := HO'
   clear T' HO'
   refine wp_region_seq (fun w' => Aside0 (w'.heap[w2.heap.size]? = some (.cells #[.int .i64 m.a, .int .i64 m.s, .bool m.b, .int .i64 m.p, .int .i64 m.q, .int .i64 m.n, .int .i64 m.t] 23)) ∧ Aside0 (Below w.heap.size w w')) [3, 4, 7, 8] [0, 1, 2, 5, 6, 3, 4, 7, 8, 9] (by kernel_rfl) (by kernel_rfl) (by kernel_rfl) (by kernel_rfl) (by kernel_rfl) (fun _ _ d _ _ h => by cases d <;> exact h) ?h0 ?hseq
   case h0 => exact T
   case hseq =>
    first | (refine seq_val (v := ?_) (a' := ?_) rfl ?_ ?_ ?_ ?_; rotate_left 2; (· rfl); (· intro w0 hS; go_simp; first | done | with_reducible rfl); (· go_simp; first | done | with_reducible rfl)) | (refine seq_off (a' := ?_) rfl ?_ ?_ ?_; rotate_left 1; (· rfl); (· go_simp; first | done | with_reducible rfl))
    first | (refine seq_val (v := ?_) (a' := ?_) rfl ?_ ?_ ?_ ?_; rotate_left 2; (· rfl); (· intro w0 hS; go_simp; first | done | with_reducible rfl); (· go_simp; first | done | with_reducible rfl)) | (refine seq_off (a' := ?_) rfl ?_ ?_ ?_; rotate_left 1; (· rfl); (· go_simp; first | done | with_reducible rfl))
    first | (refine seq_val (v := ?_) (a' := ?_) rfl ?_ ?_ ?_ ?_; rotate_left 2; (· rfl); (· intro w0 hS; obtain ⟨s0, s1⟩ := hS; have x := (blk_cell s0.out 5).trans rfl; go_simp; first | done | with_reducible rfl); (· go_simp; first | done | with_reducible rfl)) | (refine seq_off (a' := ?_) rfl ?_ ?_ ?_; rotate_left 1; (· rfl); (· go_simp; first | done | with_reducible rfl))
    first | (refine seq_val (v := ?_) (a' := ?_) rfl ?_ ?_ ?_ ?_; rotate_left 2; (· rfl); (· intro w0 hS; go_simp; first | done | with_reducible rfl); (· go_simp; first | done | with_reducible rfl)) | (refine seq_off (a' := ?_) rfl ?_ ?_ ?_; rotate_left 1; (· rfl); (· go_simp; first | done | with_reducible rfl))
    first | (refine seq_val (v := ?_) (a' := ?_) rfl ?_ ?_ ?_ ?_; rotate_left 2; (· rfl); (· intro w0 hS; obtain ⟨s0, s1⟩ := hS; have x := (blk_cell s0.out 6).trans rfl; go_simp; first | done | with_reducible rfl); (· go_simp; first | done | with_reducible rfl)) | (refine seq_off (a' := ?_) rfl ?_ ?_ ?_; rotate_left 1; (· rfl); (· go_simp; first | done | with_reducible rfl))
    refine seq_op rfl (by kernel_rfl) (by rfl) (fun K hK => ?_)
    go_simp
    go_at_call 67
    refine (num8 m.n (by have := HR.out; unfold Right at this; omega) (by have h1 := HR.out; have h2 := HF.out; unfold Right at h1; unfold Fit at h2; omega) _).mono ?_
    rintro e ua12 ⟨v, rfl, ho, hb⟩
    obtain ⟨aA, ac, rfl, hc5, hC5⟩ := Kd.R_reads ho
    have HC := Aside0.mk hC5
    obtain ⟨t0, t1⟩ := T
    have T : (fun w' => Aside0 (w'.heap[w2.heap.size]? = some (.cells #[.int .i64 m.a, .int .i64 m.s, .bool m.b, .int .i64 m.p, .int .i64 m.q, .int .i64 m.n, .int .i64 m.t] 23)) ∧ Aside0 (Below w.heap.size w w')) ua12 := ⟨⟨blk_below t0.out hb⟩, ⟨below_step t1.out hb⟩⟩
    have HO' := Aside0.mk (Kd.R_below HO.out hb)
    clear HO
    refine hK _ _ T ?_
    clear hK K hb ho hC5 hc5 t0 t1
    refine seq_stp rfl (by kernel_rfl) (fun K hK => ?_)
    refine app_b (w := w) (W := ua12) rfl (.tmp 44) (.tmp 47) rfl vb11 (((((([m.k % 256]) ++ (be 2 m.a)) ++ (be 2 m.s)) ++ [0]) ++ (be 8 m.p)) ++ (be 8 m.q)) (be 8 m.n) aA (be 8 m.n).length ac rfl rfl HO'.out HC.out T.2.out (by simp [be_len]) ?_
    intro va12 wva12 ho hb hg
    have T' : (fun w' => Aside0 (w'.heap[w2.heap.size]? = some (.cells #[.int .i64 m.a, .int .i64 m.s, .bool m.b, .int .i64 m.p, .int .i64 m.q, .int .i64 m.n, .int .i64 m.t] 23)) ∧ Aside0 (Below w.heap.size w w')) wva12 := ⟨⟨blk_grown T.1.out hg (Kd.R_ne HO'.out T.1.out (by decide))⟩, ⟨hb⟩⟩
    have HO := Aside0.mk ho
    clear HO' HC T
    have T := T'
    clear T'
    refine hK _ _ T ?_
    clear hK K ho hb hg
    refine seq_fr (a' := ?_) ?_ ?_; rotate_left 1; (· go_simp; first | done | with_reducible rfl)
    refine seq_op rfl (by kernel_rfl) (by rfl) (fun K hK => ?_)
    go_simp
    go_at_call 67
    refine (num8 m.t (by have := HR.out; unfold Right at this; omega) (by have h1 := HR.out; have h2 := HF.out; unfold Right at h1; unfold Fit at h2; omega) _).mono ?_
    rintro e ub12 ⟨v, rfl, ho, hb⟩
    obtain ⟨bA, bc, rfl, hc5, hC5⟩ := Kd.R_reads ho
    have HC := Aside0.mk hC5
    obtain ⟨t0, t1⟩ := T
    have T : (fun w' => Aside0 (w'.heap[w2.heap.size]? = some (.cells #[.int .i64 m.a, .int .i64 m.s, .bool m.b, .int .i64 m.p, .int .i64 m.q, .int .i64 m.n, .int .i64 m.t] 23)) ∧ Aside0 (Below w.heap.size w w')) ub12 := ⟨⟨blk_below t0.out hb⟩, ⟨below_step t1.out hb⟩⟩
    have HO' := Aside0.mk (Kd.R_below HO.out hb)
    clear HO
    refine hK _ _ T ?_
    clear hK K hb ho hC5 hc5 t0 t1
    refine seq_stp rfl (by kernel_rfl) (fun K hK => ?_)
    refine app_b (w := w) (W := ub12) rfl (.tmp 48) (.tmp 51) rfl va12 ((((((([m.k % 256]) ++ (be 2 m.a)) ++ (be 2 m.s)) ++ [0]) ++ (be 8 m.p)) ++ (be 8 m.q)) ++ (be 8 m.n)) (be 8 m.t) bA (be 8 m.t).length bc rfl rfl HO'.out HC.out T.2.out (by simp [be_len]) ?_
    intro vb12 wvb12 ho hb hg
    have T' : (fun w' => Aside0 (w'.heap[w2.heap.size]? = some (.cells #[.int .i64 m.a, .int .i64 m.s, .bool m.b, .int .i64 m.p, .int .i64 m.q, .int .i64 m.n, .int .i64 m.t] 23)) ∧ Aside0 (Below w.heap.size w w')) wvb12 := ⟨⟨blk_grown T.1.out hg (Kd.R_ne HO'.out T.1.out (by decide))⟩, ⟨hb⟩⟩
    have HO := Aside0.mk ho
    clear HO' HC T
    have T := T'
    clear T'
    refine hK _ _ T ?_
    clear hK K ho hb hg
    refine seq_fr (a' := ?_) ?_ ?_; rotate_left 1; (· go_simp; first | done | with_reducible rfl)
    first | (refine seq_val (v := ?_) (a' := ?_) rfl ?_ ?_ ?_ ?_; rotate_left 2; (· rfl); (· intro w0 hS; go_simp; first | done | with_reducible rfl); (· go_simp; first | done | with_reducible rfl)) | (refine seq_off (a' := ?_) rfl ?_ ?_ ?_; rotate_left 1; (· rfl); (· go_simp; first | done | with_reducible rfl))
    refine seq_nil ?_
    go_wp2_with (fail)
    go_ret
    refine ⟨_, rfl, ?_, T.2.out⟩
    have hl : enc m = ((((((([m.k % 256]) ++ (be 2 m.a)) ++ (be 2 m.s)) ++ [0]) ++ (be 8 m.p)) ++ (be 8 m.q)) ++ (be 8 m.n)) ++ (be 8 m.t) := by simp [enc, body, be1, HK.out, HS.out]
    rw [hl]
    exact HO.out
set_option maxHeartbeats 8000000 in
set_option maxRecDepth 100000 in
theorem renc_1 (m : Msg) (h : Right m) (hf : Fit m) (hk : m.k = 1 ∨ m.k = 3) (w : World) : Calls Try.prog 21 #[m.v] w (EncP w (enc m)) := by
 have HR := Aside0.mk h
 have HF := Aside0.mk hf
 have HK := Aside0.mk hk
 clear hk
 clear h hf
 go_enter Try.func21, Try.ntmps21
 unfold Msg.v
 go_wp2_with (fail)
 refine (rright_ m _).mono ?_
 rintro e u1 ⟨⟨r, rfl, hr⟩, hb⟩
 obtain rfl : r = true := hr.2 HR.out
 have B1 := Aside0.mk (blk_below (new_at w (.cells #[.int .i64 m.k, .int .i64 m.a, .int .i64 m.s, .bool m.b, .int .i64 m.p, .int .i64 m.q, .int .i64 m.n, .int .i64 m.t, .int .i64 m.i, .int .i64 m.y, .int .i64 m.d, .int .i64 m.m] 25) _ rfl) hb)
 have HB := Aside0.mk (below_step ((Below.refl w.heap.size w).alloc (Nat.le_refl _) (.cells #[.int .i64 m.k, .int .i64 m.a, .int .i64 m.s, .bool m.b, .int .i64 m.p, .int .i64 m.q, .int .i64 m.n, .int .i64 m.t, .int .i64 m.i, .int .i64 m.y, .int .i64 m.d, .int .i64 m.m] 25)) hb)
 clear hb hr
 have x0 := (blk_cell B1.out 0).trans rfl
 go_wp2_with ((with_reducible refine gate_dst (N := 11) rfl ?_); refine Kd.R_lit (Kd.int .u8) (w0 := w) w.heap.size 5 ?hg (N := 11) ?hd (xs := ([m.k % 256] : List Int)) (inner := [.int .u8 (m.k % 256)]) (ok := fun _ => True) (okp := fun _ => True) ?hr ?hp (fun _ hk => hk) trivial HB.out HB.out.size (by simp) ?_; (case hd => rfl); (case hg => rfl); (case hr => first | (go_simp; done) | (go_simp; rfl)); (case hp => exact (Reps.one (show Kd.M (Kd.int .u8) _ _ _ (m.k % 256) [.int .u8 (m.k % 256)] from rfl) (Reps.none _ _))); intro v1 w2 ho hb hg hn; have B2 := Aside0.mk (blk_grown B1.out hg (by intro h; cases h)); have HO := Aside0.mk ho; have HB2 := Aside0.mk hb; clear ho hb hg hn B1 HB; refine stop_ ?_)
 unfold Stop
 clear x0
 have x0 := (blk_cell B2.out 0).trans rfl
 have x8 := (blk_cell B2.out 8).trans rfl
 have hl : enc m = [m.k % 256] ++ be 4 m.i := by have := HK.out; rcases this with h | h <;> simp [enc, body, be1, h]
 have HL := Aside0.mk hl
 clear hl
 have hk := HK.out
 clear HK
 rcases hk with hk | hk
 all_goals
  go_wp2_with (first | (go_at_call 67; refine (num4 m.i (by have := HR.out; unfold Right at this; omega) (by have h1 := HR.out; have h2 := HF.out; unfold Right at h1; unfold Fit at h2; omega) _).mono ?_; rintro e u3 ⟨v, rfl, ho, hb⟩; obtain ⟨A5, c5, rfl, hc5, hC5⟩ := Kd.R_reads ho; have HC := Aside0.mk hC5; have HO' := Aside0.mk (Kd.R_below HO.out hb); have HB3 := Aside0.mk (below_step HB2.out hb); clear hb ho hC5 hc5 HO HB2) | ((with_reducible refine gate_builtin (b := .append) (xs := #[.tmp 56, .tmp 59]) rfl ?_); at_builtin; refine Kd.R_append_rows (Kd.int .u8) (w0 := w) w.heap.size rfl (.tmp 56) (.tmp 59) 26 5 (.int .u8 0) 1 rfl Try.underlying26 info5' rfl (by decide) (by omega) v1 [m.k % 256] (be 4 m.i) _ _ _ (fun _ => True) (fun _ => False) rfl rfl HO'.out HC.out (fun _ _ h => h) (fun _ h => h.elim) (fun _ _ => trivial) HB3.out HB3.out.size (by simp [be_len]) ?_; intro v3 w4 ho hb hg hat; have HO := Aside0.mk ho; have HB4 := Aside0.mk hb; clear ho hb hg hat HO' HC HB3))
  go_ret
  refine ⟨_, rfl, ?_, HB4.out⟩
  rw [HL.out]
  exact HO.out
set_option maxHeartbeats 8000000 in
set_option maxRecDepth 100000 in
theorem renc_2 (m : Msg) (h : Right m) (hf : Fit m) (hk : m.k = 2) (w : World) : Calls Try.prog 21 #[m.v] w (EncP w (enc m)) := by
 have HR := Aside0.mk h
 have HF := Aside0.mk hf
 have HK := Aside0.mk hk
 clear hk
 clear h hf
 go_enter Try.func21, Try.ntmps21
 unfold Msg.v
 go_wp2_with (fail)
 refine (rright_ m _).mono ?_
 rintro e u1 ⟨⟨r, rfl, hr⟩, hb⟩
 obtain rfl : r = true := hr.2 HR.out
 have B1 := Aside0.mk (blk_below (new_at w (.cells #[.int .i64 m.k, .int .i64 m.a, .int .i64 m.s, .bool m.b, .int .i64 m.p, .int .i64 m.q, .int .i64 m.n, .int .i64 m.t, .int .i64 m.i, .int .i64 m.y, .int .i64 m.d, .int .i64 m.m] 25) _ rfl) hb)
 have HB := Aside0.mk (below_step ((Below.refl w.heap.size w).alloc (Nat.le_refl _) (.cells #[.int .i64 m.k, .int .i64 m.a, .int .i64 m.s, .bool m.b, .int .i64 m.p, .int .i64 m.q, .int .i64 m.n, .int .i64 m.t, .int .i64 m.i, .int .i64 m.y, .int .i64 m.d, .int .i64 m.m] 25)) hb)
 clear hb hr
 have x0 := (blk_cell B1.out 0).trans rfl
 go_wp2_with ((with_reducible refine gate_dst (N := 11) rfl ?_); refine Kd.R_lit (Kd.int .u8) (w0 := w) w.heap.size 5 ?hg (N := 11) ?hd (xs := ([m.k % 256] : List Int)) (inner := [.int .u8 (m.k % 256)]) (ok := fun _ => True) (okp := fun _ => True) ?hr ?hp (fun _ hk => hk) trivial HB.out HB.out.size (by simp) ?_; (case hd => rfl); (case hg => rfl); (case hr => first | (go_simp; done) | (go_simp; rfl)); (case hp => exact (Reps.one (show Kd.M (Kd.int .u8) _ _ _ (m.k % 256) [.int .u8 (m.k % 256)] from rfl) (Reps.none _ _))); intro v1 w2 ho hb hg hn; have B2 := Aside0.mk (blk_grown B1.out hg (by intro h; cases h)); have HO := Aside0.mk ho; have HB2 := Aside0.mk hb; clear ho hb hg hn B1 HB; refine stop_ ?_)
 unfold Stop
 clear x0
 have hk := HK.out
 have x0 := (blk_cell B2.out 0).trans rfl
 go_wp2_with (fail)
 clear hk x0
 have T : (fun w' => Aside0 (w'.heap[w.heap.size]? = some (.cells #[.int .i64 m.k, .int .i64 m.a, .int .i64 m.s, .bool m.b, .int .i64 m.p, .int .i64 m.q, .int .i64 m.n, .int .i64 m.t, .int .i64 m.i, .int .i64 m.y, .int .i64 m.d, .int .i64 m.m] 25)) ∧ Aside0 (Below w.heap.size w w')) (World.drew w2) := ⟨⟨blk_drew B2.out⟩, ⟨HB2.out.drew⟩⟩
 have HO' := Aside0.mk (Kd.R_drew HO.out)
 clear HO B2 HB2
 have HO := HO'
 clear HO'
 refine wp_region_seq (fun w' => Aside0 (w'.heap[w.heap.size]? = some (.cells #[.int .i64 m.k, .int .i64 m.a, .int .i64 m.s, .bool m.b, .int .i64 m.p, .int .i64 m.q, .int .i64 m.n, .int .i64 m.t, .int .i64 m.i, .int .i64 m.y, .int .i64 m.d, .int .i64 m.m] 25)) ∧ Aside0 (Below w.heap.size w w')) [3, 4, 7, 8] [0, 1, 2, 5, 6, 3, 4, 7, 8, 9] (by kernel_rfl) (by kernel_rfl) (by kernel_rfl) (by kernel_rfl) (by kernel_rfl) (fun _ _ d _ _ h => by cases d <;> exact h) ?h0 ?hseq
 case h0 => exact T
 case hseq =>
  first | (refine seq_val (v := ?_) (a' := ?_) rfl ?_ ?_ ?_ ?_; rotate_left 2; (· rfl); (· intro w0 hS; go_simp; first | done | with_reducible rfl); (· go_simp; first | done | with_reducible rfl)) | (refine seq_off (a' := ?_) rfl ?_ ?_ ?_; rotate_left 1; (· rfl); (· go_simp; first | done | with_reducible rfl))
  first | (refine seq_val (v := ?_) (a' := ?_) rfl ?_ ?_ ?_ ?_; rotate_left 2; (· rfl); (· intro w0 hS; go_simp; first | done | with_reducible rfl); (· go_simp; first | done | with_reducible rfl)) | (refine seq_off (a' := ?_) rfl ?_ ?_ ?_; rotate_left 1; (· rfl); (· go_simp; first | done | with_reducible rfl))
  first | (refine seq_val (v := ?_) (a' := ?_) rfl ?_ ?_ ?_ ?_; rotate_left 2; (· rfl); (· intro w0 hS; obtain ⟨s0, s1⟩ := hS; have x := (blk_cell s0.out 8).trans rfl; go_simp; first | done | with_reducible rfl); (· go_simp; first | done | with_reducible rfl)) | (refine seq_off (a' := ?_) rfl ?_ ?_ ?_; rotate_left 1; (· rfl); (· go_simp; first | done | with_reducible rfl))
  first | (refine seq_val (v := ?_) (a' := ?_) rfl ?_ ?_ ?_ ?_; rotate_left 2; (· rfl); (· intro w0 hS; go_simp; first | done | with_reducible rfl); (· go_simp; first | done | with_reducible rfl)) | (refine seq_off (a' := ?_) rfl ?_ ?_ ?_; rotate_left 1; (· rfl); (· go_simp; first | done | with_reducible rfl))
  first | (refine seq_val (v := ?_) (a' := ?_) rfl ?_ ?_ ?_ ?_; rotate_left 2; (· rfl); (· intro w0 hS; obtain ⟨s0, s1⟩ := hS; have x := (blk_cell s0.out 9).trans rfl; go_simp; first | done | with_reducible rfl); (· go_simp; first | done | with_reducible rfl)) | (refine seq_off (a' := ?_) rfl ?_ ?_ ?_; rotate_left 1; (· rfl); (· go_simp; first | done | with_reducible rfl))
  refine seq_op rfl (by kernel_rfl) (by rfl) (fun K hK => ?_)
  go_simp
  go_at_call 67
  refine (num4 m.i (by have := HR.out; unfold Right at this; omega) (by have h1 := HR.out; have h2 := HF.out; unfold Right at h1; unfold Fit at h2; omega) _).mono ?_
  rintro e ua17 ⟨v, rfl, ho, hb⟩
  obtain ⟨aA, ac, rfl, hc5, hC5⟩ := Kd.R_reads ho
  have HC := Aside0.mk hC5
  obtain ⟨t0, t1⟩ := T
  have T : (fun w' => Aside0 (w'.heap[w.heap.size]? = some (.cells #[.int .i64 m.k, .int .i64 m.a, .int .i64 m.s, .bool m.b, .int .i64 m.p, .int .i64 m.q, .int .i64 m.n, .int .i64 m.t, .int .i64 m.i, .int .i64 m.y, .int .i64 m.d, .int .i64 m.m] 25)) ∧ Aside0 (Below w.heap.size w w')) ua17 := ⟨⟨blk_below t0.out hb⟩, ⟨below_step t1.out hb⟩⟩
  have HO' := Aside0.mk (Kd.R_below HO.out hb)
  clear HO
  refine hK _ _ T ?_
  clear hK K hb ho hC5 hc5 t0 t1
  refine seq_stp rfl (by kernel_rfl) (fun K hK => ?_)
  refine app_b (w := w) (W := ua17) rfl (.tmp 63) (.tmp 66) rfl v1 ([m.k % 256]) (be 4 m.i) aA (be 4 m.i).length ac rfl rfl HO'.out HC.out T.2.out (by simp [be_len]) ?_
  intro va17 wva17 ho hb hg
  have T' : (fun w' => Aside0 (w'.heap[w.heap.size]? = some (.cells #[.int .i64 m.k, .int .i64 m.a, .int .i64 m.s, .bool m.b, .int .i64 m.p, .int .i64 m.q, .int .i64 m.n, .int .i64 m.t, .int .i64 m.i, .int .i64 m.y, .int .i64 m.d, .int .i64 m.m] 25)) ∧ Aside0 (Below w.heap.size w w')) wva17 := ⟨⟨blk_grown T.1.out hg (Kd.R_ne HO'.out T.1.out (by decide))⟩, ⟨hb⟩⟩
  have HO := Aside0.mk ho
  clear HO' HC T
  have T := T'
  clear T'
  refine hK _ _ T ?_
  clear hK K ho hb hg
  refine seq_fr (a' := ?_) ?_ ?_; rotate_left 1; (· go_simp; first | done | with_reducible rfl)
  refine seq_op rfl (by kernel_rfl) (by rfl) (fun K hK => ?_)
  go_simp
  go_at_call 67
  refine (num8 m.y (by have := HR.out; unfold Right at this; omega) (by have h1 := HR.out; have h2 := HF.out; unfold Right at h1; unfold Fit at h2; omega) _).mono ?_
  rintro e ub17 ⟨v, rfl, ho, hb⟩
  obtain ⟨bA, bc, rfl, hc5, hC5⟩ := Kd.R_reads ho
  have HC := Aside0.mk hC5
  obtain ⟨t0, t1⟩ := T
  have T : (fun w' => Aside0 (w'.heap[w.heap.size]? = some (.cells #[.int .i64 m.k, .int .i64 m.a, .int .i64 m.s, .bool m.b, .int .i64 m.p, .int .i64 m.q, .int .i64 m.n, .int .i64 m.t, .int .i64 m.i, .int .i64 m.y, .int .i64 m.d, .int .i64 m.m] 25)) ∧ Aside0 (Below w.heap.size w w')) ub17 := ⟨⟨blk_below t0.out hb⟩, ⟨below_step t1.out hb⟩⟩
  have HO' := Aside0.mk (Kd.R_below HO.out hb)
  clear HO
  refine hK _ _ T ?_
  clear hK K hb ho hC5 hc5 t0 t1
  refine seq_stp rfl (by kernel_rfl) (fun K hK => ?_)
  refine app_b (w := w) (W := ub17) rfl (.tmp 67) (.tmp 70) rfl va17 (([m.k % 256]) ++ (be 4 m.i)) (be 8 m.y) bA (be 8 m.y).length bc rfl rfl HO'.out HC.out T.2.out (by simp [be_len]) ?_
  intro vb17 wvb17 ho hb hg
  have T' : (fun w' => Aside0 (w'.heap[w.heap.size]? = some (.cells #[.int .i64 m.k, .int .i64 m.a, .int .i64 m.s, .bool m.b, .int .i64 m.p, .int .i64 m.q, .int .i64 m.n, .int .i64 m.t, .int .i64 m.i, .int .i64 m.y, .int .i64 m.d, .int .i64 m.m] 25)) ∧ Aside0 (Below w.heap.size w w')) wvb17 := ⟨⟨blk_grown T.1.out hg (Kd.R_ne HO'.out T.1.out (by decide))⟩, ⟨hb⟩⟩
  have HO := Aside0.mk ho
  clear HO' HC T
  have T := T'
  clear T'
  refine hK _ _ T ?_
  clear hK K ho hb hg
  refine seq_fr (a' := ?_) ?_ ?_; rotate_left 1; (· go_simp; first | done | with_reducible rfl)
  first | (refine seq_val (v := ?_) (a' := ?_) rfl ?_ ?_ ?_ ?_; rotate_left 2; (· rfl); (· intro w0 hS; go_simp; first | done | with_reducible rfl); (· go_simp; first | done | with_reducible rfl)) | (refine seq_off (a' := ?_) rfl ?_ ?_ ?_; rotate_left 1; (· rfl); (· go_simp; first | done | with_reducible rfl))
  refine seq_nil ?_
  go_wp2_with (fail)
  go_ret
  refine ⟨_, rfl, ?_, T.2.out⟩
  have hl : enc m = (([m.k % 256]) ++ (be 4 m.i)) ++ (be 8 m.y) := by simp [enc, body, be1, HK.out]
  rw [hl]
  exact HO.out
set_option maxHeartbeats 8000000 in
set_option maxRecDepth 100000 in
theorem renc_6 (m : Msg) (h : Right m) (hf : Fit m) (hk : m.k = 6) (w : World) : Calls Try.prog 21 #[m.v] w (EncP w (enc m)) := by
 have HR := Aside0.mk h
 have HF := Aside0.mk hf
 have HK := Aside0.mk hk
 clear hk
 clear h hf
 go_enter Try.func21, Try.ntmps21
 unfold Msg.v
 go_wp2_with (fail)
 refine (rright_ m _).mono ?_
 rintro e u1 ⟨⟨r, rfl, hr⟩, hb⟩
 obtain rfl : r = true := hr.2 HR.out
 have B1 := Aside0.mk (blk_below (new_at w (.cells #[.int .i64 m.k, .int .i64 m.a, .int .i64 m.s, .bool m.b, .int .i64 m.p, .int .i64 m.q, .int .i64 m.n, .int .i64 m.t, .int .i64 m.i, .int .i64 m.y, .int .i64 m.d, .int .i64 m.m] 25) _ rfl) hb)
 have HB := Aside0.mk (below_step ((Below.refl w.heap.size w).alloc (Nat.le_refl _) (.cells #[.int .i64 m.k, .int .i64 m.a, .int .i64 m.s, .bool m.b, .int .i64 m.p, .int .i64 m.q, .int .i64 m.n, .int .i64 m.t, .int .i64 m.i, .int .i64 m.y, .int .i64 m.d, .int .i64 m.m] 25)) hb)
 clear hb hr
 have x0 := (blk_cell B1.out 0).trans rfl
 go_wp2_with ((with_reducible refine gate_dst (N := 11) rfl ?_); refine Kd.R_lit (Kd.int .u8) (w0 := w) w.heap.size 5 ?hg (N := 11) ?hd (xs := ([m.k % 256] : List Int)) (inner := [.int .u8 (m.k % 256)]) (ok := fun _ => True) (okp := fun _ => True) ?hr ?hp (fun _ hk => hk) trivial HB.out HB.out.size (by simp) ?_; (case hd => rfl); (case hg => rfl); (case hr => first | (go_simp; done) | (go_simp; rfl)); (case hp => exact (Reps.one (show Kd.M (Kd.int .u8) _ _ _ (m.k % 256) [.int .u8 (m.k % 256)] from rfl) (Reps.none _ _))); intro v1 w2 ho hb hg hn; have B2 := Aside0.mk (blk_grown B1.out hg (by intro h; cases h)); have HO := Aside0.mk ho; have HB2 := Aside0.mk hb; clear ho hb hg hn B1 HB; refine stop_ ?_)
 unfold Stop
 clear x0
 have hk := HK.out
 have x0 := (blk_cell B2.out 0).trans rfl
 go_wp2_with (fail)
 clear hk x0
 have T : (fun w' => Aside0 (w'.heap[w.heap.size]? = some (.cells #[.int .i64 m.k, .int .i64 m.a, .int .i64 m.s, .bool m.b, .int .i64 m.p, .int .i64 m.q, .int .i64 m.n, .int .i64 m.t, .int .i64 m.i, .int .i64 m.y, .int .i64 m.d, .int .i64 m.m] 25)) ∧ Aside0 (Below w.heap.size w w')) (World.drew w2) := ⟨⟨blk_drew B2.out⟩, ⟨HB2.out.drew⟩⟩
 have HO' := Aside0.mk (Kd.R_drew HO.out)
 clear HO B2 HB2
 have HO := HO'
 clear HO'
 refine wp_region_seq (fun w' => Aside0 (w'.heap[w.heap.size]? = some (.cells #[.int .i64 m.k, .int .i64 m.a, .int .i64 m.s, .bool m.b, .int .i64 m.p, .int .i64 m.q, .int .i64 m.n, .int .i64 m.t, .int .i64 m.i, .int .i64 m.y, .int .i64 m.d, .int .i64 m.m] 25)) ∧ Aside0 (Below w.heap.size w w')) [3, 4, 7, 8] [0, 1, 2, 5, 6, 3, 4, 7, 8, 9] (by kernel_rfl) (by kernel_rfl) (by kernel_rfl) (by kernel_rfl) (by kernel_rfl) (fun _ _ d _ _ h => by cases d <;> exact h) ?h0 ?hseq
 case h0 => exact T
 case hseq =>
  first | (refine seq_val (v := ?_) (a' := ?_) rfl ?_ ?_ ?_ ?_; rotate_left 2; (· rfl); (· intro w0 hS; go_simp; first | done | with_reducible rfl); (· go_simp; first | done | with_reducible rfl)) | (refine seq_off (a' := ?_) rfl ?_ ?_ ?_; rotate_left 1; (· rfl); (· go_simp; first | done | with_reducible rfl))
  first | (refine seq_val (v := ?_) (a' := ?_) rfl ?_ ?_ ?_ ?_; rotate_left 2; (· rfl); (· intro w0 hS; go_simp; first | done | with_reducible rfl); (· go_simp; first | done | with_reducible rfl)) | (refine seq_off (a' := ?_) rfl ?_ ?_ ?_; rotate_left 1; (· rfl); (· go_simp; first | done | with_reducible rfl))
  first | (refine seq_val (v := ?_) (a' := ?_) rfl ?_ ?_ ?_ ?_; rotate_left 2; (· rfl); (· intro w0 hS; obtain ⟨s0, s1⟩ := hS; have x := (blk_cell s0.out 10).trans rfl; go_simp; first | done | with_reducible rfl); (· go_simp; first | done | with_reducible rfl)) | (refine seq_off (a' := ?_) rfl ?_ ?_ ?_; rotate_left 1; (· rfl); (· go_simp; first | done | with_reducible rfl))
  first | (refine seq_val (v := ?_) (a' := ?_) rfl ?_ ?_ ?_ ?_; rotate_left 2; (· rfl); (· intro w0 hS; go_simp; first | done | with_reducible rfl); (· go_simp; first | done | with_reducible rfl)) | (refine seq_off (a' := ?_) rfl ?_ ?_ ?_; rotate_left 1; (· rfl); (· go_simp; first | done | with_reducible rfl))
  first | (refine seq_val (v := ?_) (a' := ?_) rfl ?_ ?_ ?_ ?_; rotate_left 2; (· rfl); (· intro w0 hS; obtain ⟨s0, s1⟩ := hS; have x := (blk_cell s0.out 11).trans rfl; go_simp; first | done | with_reducible rfl); (· go_simp; first | done | with_reducible rfl)) | (refine seq_off (a' := ?_) rfl ?_ ?_ ?_; rotate_left 1; (· rfl); (· go_simp; first | done | with_reducible rfl))
  refine seq_op rfl (by kernel_rfl) (by rfl) (fun K hK => ?_)
  go_simp
  go_at_call 67
  refine (num2 m.d (by have := HR.out; unfold Right at this; omega) (by have h1 := HR.out; have h2 := HF.out; unfold Right at h1; unfold Fit at h2; omega) _).mono ?_
  rintro e ua19 ⟨v, rfl, ho, hb⟩
  obtain ⟨aA, ac, rfl, hc5, hC5⟩ := Kd.R_reads ho
  have HC := Aside0.mk hC5
  obtain ⟨t0, t1⟩ := T
  have T : (fun w' => Aside0 (w'.heap[w.heap.size]? = some (.cells #[.int .i64 m.k, .int .i64 m.a, .int .i64 m.s, .bool m.b, .int .i64 m.p, .int .i64 m.q, .int .i64 m.n, .int .i64 m.t, .int .i64 m.i, .int .i64 m.y, .int .i64 m.d, .int .i64 m.m] 25)) ∧ Aside0 (Below w.heap.size w w')) ua19 := ⟨⟨blk_below t0.out hb⟩, ⟨below_step t1.out hb⟩⟩
  have HO' := Aside0.mk (Kd.R_below HO.out hb)
  clear HO
  refine hK _ _ T ?_
  clear hK K hb ho hC5 hc5 t0 t1
  refine seq_stp rfl (by kernel_rfl) (fun K hK => ?_)
  refine app_b (w := w) (W := ua19) rfl (.tmp 74) (.tmp 77) rfl v1 ([m.k % 256]) (be 2 m.d) aA (be 2 m.d).length ac rfl rfl HO'.out HC.out T.2.out (by simp [be_len]) ?_
  intro va19 wva19 ho hb hg
  have T' : (fun w' => Aside0 (w'.heap[w.heap.size]? = some (.cells #[.int .i64 m.k, .int .i64 m.a, .int .i64 m.s, .bool m.b, .int .i64 m.p, .int .i64 m.q, .int .i64 m.n, .int .i64 m.t, .int .i64 m.i, .int .i64 m.y, .int .i64 m.d, .int .i64 m.m] 25)) ∧ Aside0 (Below w.heap.size w w')) wva19 := ⟨⟨blk_grown T.1.out hg (Kd.R_ne HO'.out T.1.out (by decide))⟩, ⟨hb⟩⟩
  have HO := Aside0.mk ho
  clear HO' HC T
  have T := T'
  clear T'
  refine hK _ _ T ?_
  clear hK K ho hb hg
  refine seq_fr (a' := ?_) ?_ ?_; rotate_left 1; (· go_simp; first | done | with_reducible rfl)
  refine seq_op rfl (by kernel_rfl) (by rfl) (fun K hK => ?_)
  go_simp
  go_at_call 67
  refine (num8 m.m (by have := HR.out; unfold Right at this; omega) (by have h1 := HR.out; have h2 := HF.out; unfold Right at h1; unfold Fit at h2; omega) _).mono ?_
  rintro e ub19 ⟨v, rfl, ho, hb⟩
  obtain ⟨bA, bc, rfl, hc5, hC5⟩ := Kd.R_reads ho
  have HC := Aside0.mk hC5
  obtain ⟨t0, t1⟩ := T
  have T : (fun w' => Aside0 (w'.heap[w.heap.size]? = some (.cells #[.int .i64 m.k, .int .i64 m.a, .int .i64 m.s, .bool m.b, .int .i64 m.p, .int .i64 m.q, .int .i64 m.n, .int .i64 m.t, .int .i64 m.i, .int .i64 m.y, .int .i64 m.d, .int .i64 m.m] 25)) ∧ Aside0 (Below w.heap.size w w')) ub19 := ⟨⟨blk_below t0.out hb⟩, ⟨below_step t1.out hb⟩⟩
  have HO' := Aside0.mk (Kd.R_below HO.out hb)
  clear HO
  refine hK _ _ T ?_
  clear hK K hb ho hC5 hc5 t0 t1
  refine seq_stp rfl (by kernel_rfl) (fun K hK => ?_)
  refine app_b (w := w) (W := ub19) rfl (.tmp 78) (.tmp 81) rfl va19 (([m.k % 256]) ++ (be 2 m.d)) (be 8 m.m) bA (be 8 m.m).length bc rfl rfl HO'.out HC.out T.2.out (by simp [be_len]) ?_
  intro vb19 wvb19 ho hb hg
  have T' : (fun w' => Aside0 (w'.heap[w.heap.size]? = some (.cells #[.int .i64 m.k, .int .i64 m.a, .int .i64 m.s, .bool m.b, .int .i64 m.p, .int .i64 m.q, .int .i64 m.n, .int .i64 m.t, .int .i64 m.i, .int .i64 m.y, .int .i64 m.d, .int .i64 m.m] 25)) ∧ Aside0 (Below w.heap.size w w')) wvb19 := ⟨⟨blk_grown T.1.out hg (Kd.R_ne HO'.out T.1.out (by decide))⟩, ⟨hb⟩⟩
  have HO := Aside0.mk ho
  clear HO' HC T
  have T := T'
  clear T'
  refine hK _ _ T ?_
  clear hK K ho hb hg
  refine seq_fr (a' := ?_) ?_ ?_; rotate_left 1; (· go_simp; first | done | with_reducible rfl)
  first | (refine seq_val (v := ?_) (a' := ?_) rfl ?_ ?_ ?_ ?_; rotate_left 2; (· rfl); (· intro w0 hS; go_simp; first | done | with_reducible rfl); (· go_simp; first | done | with_reducible rfl)) | (refine seq_off (a' := ?_) rfl ?_ ?_ ?_; rotate_left 1; (· rfl); (· go_simp; first | done | with_reducible rfl))
  refine seq_nil ?_
  go_wp2_with (fail)
  go_ret
  refine ⟨_, rfl, ?_, T.2.out⟩
  have hl : enc m = (([m.k % 256]) ++ (be 2 m.d)) ++ (be 8 m.m) := by simp [enc, body, be1, HK.out]
  rw [hl]
  exact HO.out
set_option maxHeartbeats 8000000 in
set_option maxRecDepth 100000 in
theorem renc_4 (m : Msg) (h : Right m) (hf : Fit m) (hk : m.k = 4 ∨ m.k = 5) (w : World) : Calls Try.prog 21 #[m.v] w (EncP w (enc m)) := by
 have HR := Aside0.mk h
 have HF := Aside0.mk hf
 have HK := Aside0.mk hk
 clear hk
 clear h hf
 go_enter Try.func21, Try.ntmps21
 unfold Msg.v
 go_wp2_with (fail)
 refine (rright_ m _).mono ?_
 rintro e u1 ⟨⟨r, rfl, hr⟩, hb⟩
 obtain rfl : r = true := hr.2 HR.out
 have B1 := Aside0.mk (blk_below (new_at w (.cells #[.int .i64 m.k, .int .i64 m.a, .int .i64 m.s, .bool m.b, .int .i64 m.p, .int .i64 m.q, .int .i64 m.n, .int .i64 m.t, .int .i64 m.i, .int .i64 m.y, .int .i64 m.d, .int .i64 m.m] 25) _ rfl) hb)
 have HB := Aside0.mk (below_step ((Below.refl w.heap.size w).alloc (Nat.le_refl _) (.cells #[.int .i64 m.k, .int .i64 m.a, .int .i64 m.s, .bool m.b, .int .i64 m.p, .int .i64 m.q, .int .i64 m.n, .int .i64 m.t, .int .i64 m.i, .int .i64 m.y, .int .i64 m.d, .int .i64 m.m] 25)) hb)
 clear hb hr
 have x0 := (blk_cell B1.out 0).trans rfl
 go_wp2_with ((with_reducible refine gate_dst (N := 11) rfl ?_); refine Kd.R_lit (Kd.int .u8) (w0 := w) w.heap.size 5 ?hg (N := 11) ?hd (xs := ([m.k % 256] : List Int)) (inner := [.int .u8 (m.k % 256)]) (ok := fun _ => True) (okp := fun _ => True) ?hr ?hp (fun _ hk => hk) trivial HB.out HB.out.size (by simp) ?_; (case hd => rfl); (case hg => rfl); (case hr => first | (go_simp; done) | (go_simp; rfl)); (case hp => exact (Reps.one (show Kd.M (Kd.int .u8) _ _ _ (m.k % 256) [.int .u8 (m.k % 256)] from rfl) (Reps.none _ _))); intro v1 w2 ho hb hg hn; have B2 := Aside0.mk (blk_grown B1.out hg (by intro h; cases h)); have HO := Aside0.mk ho; have HB2 := Aside0.mk hb; clear ho hb hg hn B1 HB; refine stop_ ?_)
 unfold Stop
 clear x0
 have x0 := (blk_cell B2.out 0).trans rfl
 have hl : enc m = [m.k % 256] := by have := HK.out; rcases this with h | h <;> simp [enc, body, be1, h]
 have HL := Aside0.mk hl
 clear hl
 have hk := HK.out
 clear HK
 rcases hk with hk | hk
 all_goals
  go_wp2_with (fail)
  go_ret
  refine ⟨_, rfl, ?_, HB2.out⟩
  rw [HL.out]
  exact HO.out
set_option maxHeartbeats 8000000 in
set_option maxRecDepth 100000 in
theorem renc_no (m : Msg) (h : ¬ Right m) (w : World) : Calls Try.prog 21 #[m.v] w fun e w' => e = .returned (.slice none 0 0) ∧ Below w.heap.size w w' := by
 have HR := Aside0.mk h
 clear h
 go_enter Try.func21, Try.ntmps21
 unfold Msg.v
 go_wp2_with (fail)
 refine (rright_ m _).mono ?_
 rintro e u1 ⟨⟨r, rfl, hr⟩, hb⟩
 obtain rfl : r = false := by cases r with | false => rfl | true => exact (HR.out (hr.1 rfl)).elim
 have HB := Aside0.mk (below_step ((Below.refl w.heap.size w).alloc (Nat.le_refl _) (.cells #[.int .i64 m.k, .int .i64 m.a, .int .i64 m.s, .bool m.b, .int .i64 m.p, .int .i64 m.q, .int .i64 m.n, .int .i64 m.t, .int .i64 m.i, .int .i64 m.y, .int .i64 m.d, .int .i64 m.m] 25)) hb)
 clear hb hr
 go_wp2_with (fail)
 go_ret
 exact ⟨rfl, HB.out⟩
theorem renc_ (m : Msg) (h : Right m) (hf : Fit m) (w : World) : Calls Try.prog 21 #[m.v] w (EncP w (enc m)) := by
 have hk := h.1
 have h7 : m.k = 0 ∨ (m.k = 1 ∨ m.k = 3) ∨ m.k = 2 ∨ m.k = 6 ∨ (m.k = 4 ∨ m.k = 5) := by omega
 rcases h7 with h0 | h1 | h2 | h6 | h4
 · cases hs : m.b with
   | true => exact renc_0t m h hf h0 hs w
   | false => exact renc_0f m h hf h0 hs w
 · exact renc_1 m h hf h1 w
 · exact renc_2 m h hf h2 w
 · exact renc_6 m h hf h6 w
 · exact renc_4 m h hf h4 w
end Go.Proofs.Ytgikjgekdeaneaa.Wire
