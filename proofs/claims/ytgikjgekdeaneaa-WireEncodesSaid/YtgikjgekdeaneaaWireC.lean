/- Wire: the law's told by hand. -/
import Derived.Test.YtgikjgekdeaneaaWireB
import Derived.Test.YtgikjgekdeaneaaQWirex5
namespace Go.Proofs.Ytgikjgekdeaneaa.Wire
open Go.RowKit Go.Proofs.Ytgikjgekdeaneaa.QWire Go.Proofs.YtgikjgekdeaneaaW.PrintWords Go.Proofs.YtgikjgekdeaneaaW.PrintLast Go.Proofs.YtgikjgekdeaneaaW.PrintMore Go.Proofs.Ytgikjgekdeaneaa.Own
set_option linter.unusedVariables false
set_option linter.unusedSimpArgs false
def Stop (p : Prop) : Prop := p
theorem stop_ {p : Prop} (h : Stop p) : p := h
/-- append(v, p) of a row of one's own that isn't empty: the new row is read, and the old one still. -/
theorem append_both {P : Program} {ops : Array Oper} {rest : List Oper} {o : Oper} {a : Act} {Q : Exit → Act → World → Prop} {w0 W : World} (base : Nat) (hgd : o.guard = none) (s x : Operand) (t : TypeId)
    (ho : o.op = .call { callee := .builtin .append, args := #[s, x], argTypes := #[t, t] }) (ht : P.underlying t = some (.slice 5)) (hinfo : (P.info? 5).map (fun i => (i.zero, i.size, i.bytes)) = some (some (.int .u8 0), 1, 1))
    (v : Value) (xs : List Int) (p : Int) (ok : Nat → Prop) (hs : a.eval s = v) (hx : a.eval x = .slice (some ⟨W.heap.size, 0, none⟩) 1 1)
    (HO : (Kd.int .u8).R 5 W base ok v xs) (hne : 0 < xs.length) (HB : Below base w0 W) (hbase : base ≤ W.heap.size) (hl : (xs.length + 1) * 1 ≤ 140737488355328)
    (h : ∀ v1 w1, (∃ A c, v1 = .slice A (xs.length + 1) c ∧ xs.length + 1 ≤ c ∧ Kd.C (Kd.int .u8) w1 A (xs ++ [p]).length (xs ++ [p])) → (∃ A c, v = .slice A xs.length c ∧ Kd.C (Kd.int .u8) w1 A xs.length xs) → Below base w0 w1 → wpList P ops Q rest (a.put o.dst v1) w1) :
    wpList P ops Q (o :: rest) a (W.alloc (.cells #[.int .u8 p] 5)) := by
  obtain ⟨A0, c0, rfl, hc0, hC⟩ := Kd.R_reads HO
  obtain ⟨h0, inner, hown, hr⟩ := HO
  obtain ⟨g, cap, hv, _, _⟩ := hown.form hne
  injection hv with hA _ hcap
  subst hA hcap
  obtain ⟨i, hi, hz, hsz, hby⟩ := info_parts hinfo
  have hown1 := hown.alloc (.cells #[.int .u8 p] 5)
  have hnews : ∀ (j : Nat) (u : Value), [Value.int .u8 p][j]? = some u → (W.alloc (.cells #[.int .u8 p] 5)).cell? ((⟨W.heap.size, 0, none⟩ : Addr).add j) = some u := by
    intro j u hu
    cases j with
    | zero => rw [add_0]; exact (blk_cell (heap_alloc_new W (.cells #[.int .u8 p] 5)) 0).trans (by simpa using hu)
    | succ j => simp at hu
  have hB1 : Below base w0 (W.alloc (.cells #[.int .u8 p] 5)) := HB.alloc hbase _
  have hsize1 : (Kd.int .u8).sz = 1 := rfl
  have hr0 : ∀ w', Reps ((Kd.int .u8).K w') 1 xs inner := fun w' => hr.imp_ (fun p c h => h)
  have hr1 : ∀ w', Reps ((Kd.int .u8).K w') 1 (xs ++ [p]) (inner ++ [.int .u8 p]) := fun w' => (hr0 w').snoc rfl rfl
  have hil : inner.length = xs.length * 1 := hr.1
  refine wpList_plain hgd fun K hK' => ?_
  by_cases hroom : xs.length + 1 ≤ c0
  · obtain ⟨w', hrun, hown2, hgr⟩ := run_append_fits (P := P) (W.alloc (.cells #[.int .u8 p] 5)) base t o.type 5 i 1 ht hi hsz g xs.length c0 inner hown1 ⟨W.heap.size, 0, none⟩ 1 1 [.int .u8 p] rfl hnews (fun u hu => by rw [List.mem_singleton.1 hu]; rfl) hroom
    obtain ⟨A1, c1, hv1, hread⟩ := own_reads_row hown2 (hr1 w') (by simp)
    injection hv1 with e1 _ e2
    subst e1 e2
    have hC1 : Kd.C (Kd.int .u8) w' (some ⟨g, 0, none⟩) (xs ++ [p]).length (xs ++ [p]) := by rw [List.length_append, List.length_singleton]; exact hread
    have hC2 := Kd.C_take hC1 (m := xs.length) (by simp)
    rw [List.take_left] at hC2
    unfold Oper.wp
    simp [execOp, ho, resolve, invoke, builtin, hs, hx, hrun, Result.andThen]
    exact hK' _ _ (h _ _ ⟨_, _, rfl, hroom, hC1⟩ ⟨_, _, rfl, hC2⟩ (hB1.grown hgr (by simp; omega) (fun k hk => by cases hk; exact own_base hown _ rfl)))
  · have hc1 : Kd.C (Kd.int .u8) (W.alloc (.cells #[.int .u8 p] 5)) (some ⟨g, 0, none⟩) xs.length xs := Kd.C_alloc hC _
    obtain ⟨v', w', hrun, r1, r2⟩ := run_append_arg_grows (P := P) (W.alloc (.cells #[.int .u8 p] 5)) t o.type 5 i (.int .u8 0) 1 1 ht hi hz hsz hby rfl (by decide) ⟨g, 0, none⟩ xs.length c0 inner hil (fun j u hj => by have h9 := hown1.cells (g := g) rfl j u hj; first | exact h9 | (rw [Addr.add_lit]; simpa using h9)) ⟨W.heap.size, 0, none⟩ 1 1 [.int .u8 p] rfl hnews (by omega) (by simp only [maxLen]; omega) hl
    obtain ⟨A1, c1, rfl, hread⟩ := own_reads_row r1 (hr1 w') (by simp)
    have hC1 : Kd.C (Kd.int .u8) w' A1 (xs ++ [p]).length (xs ++ [p]) := by rw [List.length_append, List.length_singleton]; exact hread
    unfold Oper.wp
    simp [execOp, ho, resolve, invoke, builtin, hs, hx, hrun, Result.andThen]
    exact hK' _ _ (h _ _ ⟨_, _, rfl, own_le r1, hC1⟩ ⟨_, _, rfl, Kd.C_below hc1 ⟨r2.os, r2.tape, r2.output, r2.size, fun k hk => r2.block k hk (by simp)⟩⟩ (hB1.grown r2 (by simp; omega) (fun k hk => by cases hk)))
/-- A block of bytes is read. -/
theorem C_u8_block {w : World} {g : Nat} {xs : List Int} {t : TypeId} (h : w.heap[g]? = some (.cells (xs.map (Value.int .u8)).toArray t (0, 0))) (hm : xs.length ≤ 9223372036854775807) : Kd.C (Kd.int .u8) w (some ⟨g, 0, none⟩) xs.length xs := by
  refine ⟨rfl, hm, fun _ => ⟨_, rfl, fun j p hj => ⟨[.int .u8 p], rfl, rfl, fun i u hu => ?_⟩⟩⟩
  cases i with
  | zero =>
    have hu2 : Value.int .u8 p = u := by simpa using hu
    subst hu2
    rw [Addr.add_lit]
    refine (blk_cell h _).trans ?_
    simp only [Nat.zero_add, Nat.add_zero]
    rw [show j * (Kd.int .u8).sz = j from Nat.mul_one j]
    simp [hj]
  | succ i => simp at hu
theorem info5' : (Try.prog.info? 5).map (fun i => (i.zero, i.size, i.bytes)) = some (some (.int .u8 0), 1, 1) := by kernel_rfl
theorem dec_told : dec [1, 0, 0, 0, 5, 9] = some ({ zero with k := 1, i := 5 }, [9]) := by kernel_rfl
theorem dec_seven : dec [7] = none := by decide +kernel
theorem enc_told : wire_Encode.f 9 1 0 0 false 0 0 0 0 5 0 0 0 = some [1, 0, 0, 0, 5] := by decide +kernel
set_option maxHeartbeats 8000000 in
set_option maxRecDepth 100000 in
theorem told (w : World) : Calls Try.prog 18 #[] w fun e w' => e = .returned (.bool true) ∧ Below w.heap.size w w' := by
 go_enter Try.func18, Try.ntmps18
 go_wp2_with (fail)
 refine (wire_Encode.calls 9 1 0 0 false 0 0 0 0 5 0 0 0 _ _ enc_told).mono ?_
 rintro e w1 ⟨v, rfl, ho, hb⟩
 have HO := Aside0.mk ho
 have HB := Aside0.mk hb
 clear ho hb
 go_wp2_with (at_builtin; refine append_both (w0 := w) w.heap.size rfl (.tmp 11) (.tmp 12) 26 rfl Try.underlying26 info5' v [1, 0, 0, 0, 5] 9 (fun _ => True) rfl (by first | (go_simp; done) | (go_simp; rfl)) HO.out (by decide) HB.out (below_size HB.out) (by decide) ?_; rintro v1 w2 ⟨A1, c1, rfl, hc1, hC1⟩ ⟨A0, c0, rfl, hC0⟩ hb2; have HC1 := Aside0.mk hC1; have HC0 := Aside0.mk hC0; have HB2 := Aside0.mk hb2; clear hC1 hC0 hb2 HB HO)
 refine (decode_ A1 c1 [1, 0, 0, 0, 5, 9] _ HC1.out hc1 (by unfold Bytes; decide) (by decide)).mono ?_
 rintro e w3 ⟨hd, hb3⟩
 obtain ⟨A2, c2, he, hc2, _, hF2⟩ := hd.yes _ _ dec_told
 subst he
 have HC3 := Aside0.mk (Kd.C_below HC0.out hb3)
 have HB3 := Aside0.mk (HB2.out.trans (hb3.mono (below_size HB2.out)))
 obtain ⟨ad, e1, hx⟩ := Kd.at_int (Kd.F_now hF2) 0 (by decide) (by decide)
 cases e1
 rw [show ((0 : Int).toNat) = 0 from rfl, add_0] at hx
 have HF2 := Aside0.mk hF2
 clear hd hb3 HC0 HC1 HB2 hF2 hx
 unfold Msg.v zero
 go_wp2_with (fail)
 refine (decode_ (some ⟨w3.heap.size + 1, 0, none⟩) 1 [7] _ (C_u8_block (t := 5) (new_at _ _ _ (size_alloc _ _).symm) (by decide)) (by decide) (by unfold Bytes; decide) (by decide)).mono ?_
 rintro e w4 ⟨hd, hb4⟩
 have he := hd.no dec_seven
 subst he
 have BM := Aside0.mk (blk_alloc (blk_below (blk_alloc (new_at w3 (.cells #[.int .i64 1, .int .i64 0, .int .i64 0, .bool false, .int .i64 0, .int .i64 0, .int .i64 0, .int .i64 0, .int .i64 5, .int .i64 0, .int .i64 0, .int .i64 0] 30) _ rfl) (.cells #[.int .u8 7] 5)) hb4) (.cells #[.int .i64 0, .int .i64 0, .int .i64 0, .bool false, .int .i64 0, .int .i64 0, .int .i64 0, .int .i64 0, .int .i64 0, .int .i64 0, .int .i64 0, .int .i64 0] 30))
 have HB4 : Below w.heap.size w w4 := ((HB3.out.alloc (below_size HB3.out) _).alloc (below_size (HB3.out.alloc (below_size HB3.out) _)) _).trans (hb4.mono (below_size ((HB3.out.alloc (below_size HB3.out) _).alloc (below_size (HB3.out.alloc (below_size HB3.out) _)) _)))
 have HF4 := Kd.F_now (Kd.F_alloc (Kd.F_below (Kd.F_alloc (Kd.F_alloc HF2.out _) _) hb4) (.cells #[.int .i64 0, .int .i64 0, .int .i64 0, .bool false, .int .i64 0, .int .i64 0, .int .i64 0, .int .i64 0, .int .i64 0, .int .i64 0, .int .i64 0, .int .i64 0] 30))
 have HC4 := Kd.C_alloc (Kd.C_below (Kd.C_alloc (Kd.C_alloc HC3.out _) _) hb4) (.cells #[.int .i64 0, .int .i64 0, .int .i64 0, .bool false, .int .i64 0, .int .i64 0, .int .i64 0, .int .i64 0, .int .i64 0, .int .i64 0, .int .i64 0, .int .i64 0] 30)
 have hsc : (convert 26 9 (.slice A0 5 c0)).run Try.prog (w4.alloc (.cells #[.int .i64 0, .int .i64 0, .int .i64 0, .bool false, .int .i64 0, .int .i64 0, .int .i64 0, .int .i64 0, .int .i64 0, .int .i64 0, .int .i64 0, .int .i64 0] 30)) = .ok (.string ⟨#[1, 0, 0, 0, 5]⟩) (w4.alloc (.cells #[.int .i64 0, .int .i64 0, .int .i64 0, .bool false, .int .i64 0, .int .i64 0, .int .i64 0, .int .i64 0, .int .i64 0, .int .i64 0, .int .i64 0, .int .i64 0] 30)) := by
  have h9 := Kd.C_string (c := c0) Try.underlying26 Try.underlying5 Try.underlying9 HC4
  rw [show strOfNums [1, 0, 0, 0, 5] = ⟨#[1, 0, 0, 0, 5]⟩ by decide +kernel] at h9
  exact h9
 obtain ⟨ad2, e1, hx⟩ := Kd.at_int HF4 0 (by decide) (by decide)
 cases e1
 rw [show ((0 : Int).toNat) = 0 from rfl, add_0] at hx
 have f8 := (blk_cell BM.out 8).trans rfl
 clear HF4 HC4 hd hb4
 unfold zero Msg.v
 go_wp2_with (fail)
 go_ret
 exact ⟨rfl, HB4.alloc (below_size HB4) _⟩
end Go.Proofs.Ytgikjgekdeaneaa.Wire
