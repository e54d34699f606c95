/- Printed by wip/gen/myprint.py, a program of this session, for this claim: functions of the program as Lean functions, each with a proof that the Go code comes to its answers. -/
import Derived.Test.YtgikjgekdeaneaaQRulesLooksx0
namespace Go.Proofs.Ytgikjgekdeaneaa.QRulesLooks
open Go.RowKit Go.Proofs.YtgikjgekdeaneaaW.PrintWords Go.Proofs.YtgikjgekdeaneaaW.PrintLast Go.Proofs.YtgikjgekdeaneaaW.PrintMore
attribute [local go_sem] max2_int min2_int max_two min_two max_three min_three max_four min_four   -- for this text's walks alone
set_option linter.unusedVariables false
set_option linter.unusedSimpArgs false

attribute [local go_sem] run_store_flt
-- NOT PRINTED: function 57 (math_Float64frombits)

/-! ### stopgatelaw05_Ref: function 41 -/
def stopgatelaw05_Ref.l0 : Nat → Int → Int → Int → Int → Int → List (S176) → List Int → List (S145) → Int → Int → Int → Int → List (S176) → List Int → List (S86) → Option (Int × Int × Int × Int × (List (S176)) × List Int × (List (S86)))
 | 0, _, _, _, _, _, _, _, _, _, _, _, _, _, _, _ => none
 | k + 1, x4, x155000, x155001, x155002, x155003, x155004, x155005, x155006, x157000, x157001, x157002, x157003, x157004, x157005, x157006 => if x4 < (x155006.length : Int) then (if 0 ≤ x4 then (if x157006.length < 4398046511104 then (stopgatelaw05_Ref.l0 k (wrap64 (x4 + 1)) x155000 x155001 x155002 x155003 x155004 x155005 x155006 x157000 x157001 x157002 x157003 x157004 x157005 (x157006 ++ [(⟨(rd_T145 x155006 x4).f0, (rd_T145 x155006 x4).f1, (rd_T145 x155006 x4).f2, ((rd_T145 x155006 x4).f3).toNat⟩ : S86)])) else (none)) else (none)) else (some (x157000, x157001, x157002, x157003, x157004, x157005, x157006))
def stopgatelaw05_Ref.f (k : Nat) (a0_0 : Int) (a0_1 : Int) (a0_2 : Int) (a0_3 : Int) (l0_4 : List (S176)) (l0_5 : List Int) (l0_6 : List (S145)) : Option (Int × Int × Int × Int × (List (S176)) × List Int × (List (S86))) := stopgatelaw05_Ref.l0 k 0 a0_0 a0_1 a0_2 a0_3 l0_4 l0_5 l0_6 a0_0 a0_1 a0_2 a0_3 l0_4 l0_5 ([] : List (S86))
theorem stopgatelaw05_Ref.mono_l : ∀ k, (∀ y0 y1 y2 y3 y4 y5 y6 y7 y8 y9 y10 y11 y12 y13 y14, LeO (stopgatelaw05_Ref.l0 k y0 y1 y2 y3 y4 y5 y6 y7 y8 y9 y10 y11 y12 y13 y14) (stopgatelaw05_Ref.l0 (k + 1) y0 y1 y2 y3 y4 y5 y6 y7 y8 y9 y10 y11 y12 y13 y14))
 | 0 => fun _ _ _ _ _ _ _ _ _ _ _ _ _ _ _ r h => by simp [stopgatelaw05_Ref.l0] at h
 | k + 1 => by
  have ih0 := stopgatelaw05_Ref.mono_l k
  ·intro y0 y1 y2 y3 y4 y5 y6 y7 y8 y9 y10 y11 y12 y13 y14
   unfold stopgatelaw05_Ref.l0
   repeat' first
   | (with_reducible exact ih0 _ _ _ _ _ _ _ _ _ _ _ _ _ _ _)
   | (with_reducible exact LeO.refl _)
   | (with_reducible exact LeO.none _)
   | (with_reducible refine LeO.ite ?_ ?_)
   | (with_reducible refine LeO.bind ?_ (fun _ => ?_))
   | exact ih0 _ _ _ _ _ _ _ _ _ _ _ _ _ _ _
   | exact LeO.none _
   | refine LeO.ite ?_ ?_
   | refine LeO.bind ?_ (fun _ => ?_)
theorem stopgatelaw05_Ref.mono : ∀ a0 a1 a2 a3 a4 a5 a6 k, LeO (stopgatelaw05_Ref.f k a0 a1 a2 a3 a4 a5 a6) (stopgatelaw05_Ref.f (k + 1) a0 a1 a2 a3 a4 a5 a6) := by
 intro a0 a1 a2 a3 a4 a5 a6 k
 have ih0 := stopgatelaw05_Ref.mono_l k
 unfold stopgatelaw05_Ref.f
 repeat' first
   | (with_reducible exact ih0 _ _ _ _ _ _ _ _ _ _ _ _ _ _ _)
   | (with_reducible exact LeO.refl _)
   | (with_reducible exact LeO.none _)
   | (with_reducible refine LeO.ite ?_ ?_)
   | (with_reducible refine LeO.bind ?_ (fun _ => ?_))
   | exact ih0 _ _ _ _ _ _ _ _ _ _ _ _ _ _ _
   | exact LeO.none _
   | refine LeO.ite ?_ ?_
   | refine LeO.bind ?_ (fun _ => ?_)
def stopgatelaw05_Ref.T6 : Bool × List (List Nat × List Nat) := (true, [([], []), ([0], [0]), ([], []), ([2], [2]), ([], []), ([4], [4]), ([], []), ([6], [6]), ([], []), ([8], [8]), ([9], [9]), ([3, 5, 7, 10], [3, 5, 7, 10]), ([11], [11]), ([1, 12, 10], [1, 12]), ([0, 1, 2, 3, 4, 5, 6, 7, 8, 9, 10, 11, 12, 13], []), ([14, 13, 13, 0, 1, 2, 3, 4, 5, 6, 7, 8, 9, 10, 11, 12, 13], [13, 14])])
def stopgatelaw05_Ref.B6 : List Nat := [0, 1, 0, 4, 0, 16, 0, 64, 0, 256, 768, 2044, 4092, 8191, 16383, 32767]
theorem stopgatelaw05_Ref.tab6 : rtab .any (opsOf Try.f41 6) = stopgatelaw05_Ref.T6 := by kernel_rfl
theorem stopgatelaw05_Ref.bits6 : waitsOk stopgatelaw05_Ref.T6.2 stopgatelaw05_Ref.B6 = true := by kernel_rfl
set_option maxHeartbeats 8000000 in
set_option maxRecDepth 100000 in
theorem stopgatelaw05_Ref.calls (k : Nat) (a0_0 : Int) (a0_1 : Int) (a0_2 : Int) (a0_3 : Int) (P0_4_ : Nat → Prop) (A0_4 : Option Addr) (c0_4 : Nat) (l0_4 : List (S176)) (P0_5_ : Nat → Prop) (A0_5 : Option Addr) (c0_5 : Nat) (l0_5 : List Int) (A0_6 : Option Addr) (c0_6 : Nat) (l0_6 : List (S145)) (r1 : Int) (r2 : Int) (r3 : Int) (r4 : Int) (r5 : List (S176)) (r6 : List Int) (r7 : List (S86)) (w : World) (hs0_4 : Kd.V k176 176 w w.heap.size (fun k_ => P0_4_ k_) (.slice A0_4 l0_4.length c0_4) l0_4) (hs0_5 : Kd.V (Kd.int .i64) 3 w w.heap.size (fun k_ => P0_5_ k_) (.slice A0_5 l0_5.length c0_5) l0_5) (hr0_6 : Kd.C k145 w A0_6 l0_6.length l0_6) (hc0_6 : l0_6.length ≤ c0_6) (h : stopgatelaw05_Ref.f k a0_0 a0_1 a0_2 a0_3 l0_4 l0_5 l0_6 = some (r1, r2, r3, r4, r5, r6, r7)) :
  Calls Try.prog 41 #[.agg #[.int .i64 a0_0, .int .i64 a0_1, .int .i64 a0_2, .int .i64 a0_3, .slice A0_4 l0_4.length c0_4, .slice A0_5 l0_5.length c0_5, .slice A0_6 l0_6.length c0_6]] w fun e w' => ∃ v4_ v5_ v6_ : Value, e = .returned (.agg #[.int .i64 r1, .int .i64 r2, .int .i64 r3, .int .i64 r4, v4_, v5_, v6_]) ∧ Kd.V k176 176 w' w.heap.size (fun k_ => ((P0_4_ k_ ∨ P0_5_ k_) ∨ w.heap.size ≤ k_) ∧ some k_ ≠ (v6_ : Value).ownBlock) v4_ r5 ∧ Kd.V (Kd.int .i64) 3 w' w.heap.size (fun k_ => ((P0_4_ k_ ∨ P0_5_ k_) ∨ w.heap.size ≤ k_) ∧ some k_ ≠ (v6_ : Value).ownBlock) v5_ r6 ∧ Kd.R k86 86 w' w.heap.size (fun k_ => (w.heap.size ≤ k_)) v6_ r7 ∧ Below w.heap.size w w' := by
 have hx57 : ∀ (n_ : Int) (w_ : World), (callFunc 57 #[.int .u64 n_]).run Try.prog w_ = .ok (.value (.float .f64 n_.toNat)) w_ := fun n_ w_ => (run_callFunc_extern (e := Extern.MathFloatBits.float64frombits) Try.func57 (by kernel_rfl) (by kernel_rfl) (by kernel_rfl) (by kernel_rfl) _ w_).trans rfl
 have hu78 := Try.underlying78
 have hu81 := Try.underlying81
 have hu145 := Try.underlying145
 have hu86 := Try.underlying86
 have HO0_4 := A0s.mk (show Kd.V k176 176 w w.heap.size (fun k_ => ((P0_4_ k_ ∨ P0_5_ k_) ∨ w.heap.size ≤ k_)) (.slice A0_4 l0_4.length c0_4) l0_4 from Kd.V_mono hs0_4 (fun k_ hk => .inl (.inl hk)))
 have HO0_5 := A0s.mk (show Kd.V (Kd.int .i64) 3 w w.heap.size (fun k_ => ((P0_4_ k_ ∨ P0_5_ k_) ∨ w.heap.size ≤ k_)) (.slice A0_5 l0_5.length c0_5) l0_5 from Kd.V_mono hs0_5 (fun k_ hk => .inl (.inr hk)))
 have HR0_6 := A0s.mk hr0_6
 have HC0_6 := A0s.mk hc0_6
 clear hr0_6 hc0_6
 have HB := A0s.mk (Below.refl w.heap.size w)
 have H : (stopgatelaw05_Ref.l0 k 0 a0_0 a0_1 a0_2 a0_3 l0_4 l0_5 l0_6 a0_0 a0_1 a0_2 a0_3 l0_4 l0_5 ([] : List (S86))) = some (r1, r2, r3, r4, r5, r6, r7) := h
 clear h
 have H' := A0s.mk H
 clear H
 go_enter Try.func41, Try.ntmps41
 go_wp2_with (first | ((with_reducible refine gate_dst (N := 1) rfl ?_); refine box_event ?hg (N := 1) ?hd (cs := #[.int .i64 a0_0, .int .i64 a0_1, .int .i64 a0_2, .int .i64 a0_3, .slice A0_4 l0_4.length c0_4, .slice A0_5 l0_5.length c0_5, .slice A0_6 l0_6.length c0_6]) (t := 78) ?hr ?_; (case hd => rfl); (case hg => rfl); (case hr => first | (go_simp; done) | (go_simp; rfl)); intro gb154 hg w2 hbox hb; have n0_ := A0s.mk (Kd.V_below (Kd.V_elderB (by (with_reducible repeat (first | apply Kd.V_alloc | apply Kd.V_drewN | apply Kd.V_drew)); exact HO0_4.out) gb154 (Nat.le_of_eq hg.symm)) hb); have n1_ := A0s.mk (Kd.V_below (Kd.V_elderB (by (with_reducible repeat (first | apply Kd.V_alloc | apply Kd.V_drewN | apply Kd.V_drew)); exact HO0_5.out) gb154 (Nat.le_of_eq hg.symm)) hb); have n2_ := A0s.mk (below_step (by repeat (first | (with_reducible first | exact HB.out | apply bA | apply bN | apply bD) | exact HB.out)) hb); have n3_ := A0s.mk (hbox); have n4_ := A0s.mk ((by rw [hg]; exact (below_size (by repeat (first | (with_reducible first | exact HB.out | apply bA | apply bN | apply bD) | exact HB.out))) : w.heap.size ≤ gb154)); have n5_ := A0s.mk ((by rw [hg]; exact (below_size (by repeat (first | (with_reducible first | exact HB.out | apply bA | apply bN | apply bD) | exact HB.out))) : w.heap.size ≤ gb154)); clear HO0_4; clear HO0_5; clear HB; have HO0_4 := n0_; have HO0_5 := n1_; have HB := n2_; have BK154 := n3_; have GW154 := n4_; have GE154 := n5_; clear n0_ n1_ n2_ n3_ n4_ n5_; clear hb hbox hg) | ((with_reducible refine gate_dst (N := 2) rfl ?_); refine box_event ?hg (N := 2) ?hd (cs := #[.int .i64 0, .int .i64 0, .int .i64 0, .int .i64 0, .slice none 0 0, .slice none 0 0, .slice none 0 0]) (t := 81) ?hr ?_; (case hd => rfl); (case hg => rfl); (case hr => first | (go_simp; done) | (go_simp; rfl)); intro gb155 hg w3 hbox hb; have n0_ := A0s.mk (Kd.V_below (Kd.V_elderB (by (with_reducible repeat (first | apply Kd.V_alloc | apply Kd.V_drewN | apply Kd.V_drew)); exact HO0_4.out) gb155 (Nat.le_of_eq hg.symm)) hb); have n1_ := A0s.mk (Kd.V_below (Kd.V_elderB (by (with_reducible repeat (first | apply Kd.V_alloc | apply Kd.V_drewN | apply Kd.V_drew)); exact HO0_5.out) gb155 (Nat.le_of_eq hg.symm)) hb); have n2_ := A0s.mk (blk_below (g := gb154) (o := .cells #[.int .i64 a0_0, .int .i64 a0_1, .int .i64 a0_2, .int .i64 a0_3, .slice A0_4 l0_4.length c0_4, .slice A0_5 l0_5.length c0_5, .slice A0_6 l0_6.length c0_6] 78 (0, 0)) (by (with_reducible repeat (first | apply kN | apply kD | apply kA)); exact BK154.out) hb); have n3_ := A0s.mk (below_step (by repeat (first | (with_reducible first | exact HB.out | apply bA | apply bN | apply bD | refine bS ?_ GE154.out) | exact HB.out)) hb); have n4_ := A0s.mk (hbox); have n5_ := A0s.mk ((by rw [hg]; exact (below_size (by repeat (first | (with_reducible first | exact HB.out | apply bA | apply bN | apply bD | refine bS ?_ GE154.out) | exact HB.out))) : w.heap.size ≤ gb155)); have n6_ := A0s.mk ((by rw [hg]; exact (below_size (by repeat (first | (with_reducible first | exact HB.out | apply bA | apply bN | apply bD | refine bS ?_ GE154.out) | exact HB.out))) : w.heap.size ≤ gb155)); have n7_ := A0s.mk ((by rw [hg]; exact Nat.ne_of_lt (blk_lt (g := gb154) (o := .cells #[.int .i64 a0_0, .int .i64 a0_1, .int .i64 a0_2, .int .i64 a0_3, .slice A0_4 l0_4.length c0_4, .slice A0_5 l0_5.length c0_5, .slice A0_6 l0_6.length c0_6] 78 (0, 0)) (by (with_reducible repeat (first | apply kN | apply kD | apply kA)); exact BK154.out)) : gb154 ≠ gb155)); have n8_ := A0s.mk ((by rw [hg]; exact Nat.ne_of_gt (blk_lt (g := gb154) (o := .cells #[.int .i64 a0_0, .int .i64 a0_1, .int .i64 a0_2, .int .i64 a0_3, .slice A0_4 l0_4.length c0_4, .slice A0_5 l0_5.length c0_5, .slice A0_6 l0_6.length c0_6] 78 (0, 0)) (by (with_reducible repeat (first | apply kN | apply kD | apply kA)); exact BK154.out)) : gb155 ≠ gb154)); clear HO0_4; clear HO0_5; clear BK154; clear HB; have HO0_4 := n0_; have HO0_5 := n1_; have BK154 := n2_; have HB := n3_; have BK155 := n4_; have GW155 := n5_; have GE155 := n6_; have NB154_155 := n7_; have NB155_154 := n8_; clear n0_ n1_ n2_ n3_ n4_ n5_ n6_ n7_ n8_; clear hb hbox hg; have hnb4 := NB154_155.out; have hnc4 := NB155_154.out; obtain ⟨hcz5_0, hcz5_1, hcz5_2, hcz5_3, hcz5_4, hcz5_5, hcz5_6, hfz5_0, hfz5_1, hfz5_2, hfz5_3, hfz5_4, hfz5_5, hfz5_6⟩ := blk_all7 BK154.out) | ((with_reducible refine gate_dst (N := 3) rfl ?_); refine box_event ?hg (N := 3) ?hd (cs := #[.int .i64 0, .int .i64 0, .int .i64 0, .int .i64 0, .slice none 0 0, .slice none 0 0, .slice none 0 0]) (t := 81) ?hr ?_; (case hd => rfl); (case hg => rfl); (case hr => first | (go_simp; done) | (go_simp; rfl)); intro gb156 hg w6 hbox hb; have n0_ := A0s.mk (Kd.V_below (Kd.V_elderB (by (with_reducible repeat (first | apply Kd.V_alloc | apply Kd.V_drewN | apply Kd.V_drew)); exact HO0_4.out) gb156 (Nat.le_of_eq hg.symm)) hb); have n1_ := A0s.mk (Kd.V_below (Kd.V_elderB (by (with_reducible repeat (first | apply Kd.V_alloc | apply Kd.V_drewN | apply Kd.V_drew)); exact HO0_5.out) gb156 (Nat.le_of_eq hg.symm)) hb); have n2_ := A0s.mk (blk_below (g := gb154) (o := .cells #[.int .i64 a0_0, .int .i64 a0_1, .int .i64 a0_2, .int .i64 a0_3, .slice A0_4 l0_4.length c0_4, .slice A0_5 l0_5.length c0_5, .slice A0_6 l0_6.length c0_6] 78 (0, 0)) (by (with_reducible repeat (first | apply kN | apply kD | apply kA)); exact BK154.out) hb); have n3_ := A0s.mk (blk_below (g := gb155) (o := .cells #[.int .i64 0, .int .i64 0, .int .i64 0, .int .i64 0, .slice none 0 0, .slice none 0 0, .slice none 0 0] 81 (0, 0)) (by (with_reducible repeat (first | apply kN | apply kD | apply kA)); exact BK155.out) hb); have n4_ := A0s.mk (below_step (by repeat (first | (with_reducible first | exact HB.out | apply bA | apply bN | apply bD | refine bS ?_ GE154.out | refine bS ?_ GE155.out) | exact HB.out)) hb); have n5_ := A0s.mk (hbox); have n6_ := A0s.mk ((by rw [hg]; exact (below_size (by repeat (first | (with_reducible first | exact HB.out | apply bA | apply bN | apply bD | refine bS ?_ GE154.out | refine bS ?_ GE155.out) | exact HB.out))) : w.heap.size ≤ gb156)); have n7_ := A0s.mk ((by rw [hg]; exact (below_size (by repeat (first | (with_reducible first | exact HB.out | apply bA | apply bN | apply bD | refine bS ?_ GE154.out | refine bS ?_ GE155.out) | exact HB.out))) : w.heap.size ≤ gb156)); have n8_ := A0s.mk ((by rw [hg]; exact Nat.ne_of_lt (blk_lt (g := gb154) (o := .cells #[.int .i64 a0_0, .int .i64 a0_1, .int .i64 a0_2, .int .i64 a0_3, .slice A0_4 l0_4.length c0_4, .slice A0_5 l0_5.length c0_5, .slice A0_6 l0_6.length c0_6] 78 (0, 0)) (by (with_reducible repeat (first | apply kN | apply kD | apply kA)); exact BK154.out)) : gb154 ≠ gb156)); have n9_ := A0s.mk ((by rw [hg]; exact Nat.ne_of_gt (blk_lt (g := gb154) (o := .cells #[.int .i64 a0_0, .int .i64 a0_1, .int .i64 a0_2, .int .i64 a0_3, .slice A0_4 l0_4.length c0_4, .slice A0_5 l0_5.length c0_5, .slice A0_6 l0_6.length c0_6] 78 (0, 0)) (by (with_reducible repeat (first | apply kN | apply kD | apply kA)); exact BK154.out)) : gb156 ≠ gb154)); have n10_ := A0s.mk ((by rw [hg]; exact Nat.ne_of_lt (blk_lt (g := gb155) (o := .cells #[.int .i64 0, .int .i64 0, .int .i64 0, .int .i64 0, .slice none 0 0, .slice none 0 0, .slice none 0 0] 81 (0, 0)) (by (with_reducible repeat (first | apply kN | apply kD | apply kA)); exact BK155.out)) : gb155 ≠ gb156)); have n11_ := A0s.mk ((by rw [hg]; exact Nat.ne_of_gt (blk_lt (g := gb155) (o := .cells #[.int .i64 0, .int .i64 0, .int .i64 0, .int .i64 0, .slice none 0 0, .slice none 0 0, .slice none 0 0] 81 (0, 0)) (by (with_reducible repeat (first | apply kN | apply kD | apply kA)); exact BK155.out)) : gb156 ≠ gb155)); clear HO0_4; clear HO0_5; clear BK154; clear BK155; clear HB; have HO0_4 := n0_; have HO0_5 := n1_; have BK154 := n2_; have BK155 := n3_; have HB := n4_; have BK156 := n5_; have GW156 := n6_; have GE156 := n7_; have NB154_156 := n8_; have NB156_154 := n9_; have NB155_156 := n10_; have NB156_155 := n11_; clear n0_ n1_ n2_ n3_ n4_ n5_ n6_ n7_ n8_ n9_ n10_ n11_; clear hb hbox hg; have hnb7 := NB156_154.out; have hnc7 := NB154_156.out; have hnb8 := NB156_155.out; have hnc8 := NB155_156.out; obtain ⟨hcz9_0, hcz9_1, hcz9_2, hcz9_3, hcz9_4, hcz9_5, hcz9_6, hfz9_0, hfz9_1, hfz9_2, hfz9_3, hfz9_4, hfz9_5, hfz9_6⟩ := blk_all7 BK156.out))
 go_loopg [4] k (fun kq v4 w' => ∃ (x4_1 : Int) (x157006_1 : List (S86)) (u157006 : Value), v4 = .int .i64 x4_1 ∧ A0s (stopgatelaw05_Ref.l0 kq x4_1 a0_0 a0_1 a0_2 a0_3 l0_4 l0_5 l0_6 a0_0 a0_1 a0_2 a0_3 l0_4 l0_5 x157006_1 = some (r1, r2, r3, r4, r5, r6, r7)) ∧ A0s (kq ≤ k) ∧ A0s (Kd.V k176 176 w' w.heap.size (fun k_ => ((P0_4_ k_ ∨ P0_5_ k_) ∨ w.heap.size ≤ k_) ∧ some k_ ≠ (u157006 : Value).ownBlock ∧ k_ ≠ gb154 ∧ k_ ≠ gb155 ∧ k_ ≠ gb156) (.slice A0_4 l0_4.length c0_4) l0_4) ∧ A0s (Kd.V (Kd.int .i64) 3 w' w.heap.size (fun k_ => ((P0_4_ k_ ∨ P0_5_ k_) ∨ w.heap.size ≤ k_) ∧ some k_ ≠ (u157006 : Value).ownBlock ∧ k_ ≠ gb154 ∧ k_ ≠ gb155 ∧ k_ ≠ gb156) (.slice A0_5 l0_5.length c0_5) l0_5) ∧ A0s (Kd.V k176 176 w' w.heap.size (fun k_ => ((P0_4_ k_ ∨ P0_5_ k_) ∨ w.heap.size ≤ k_) ∧ some k_ ≠ (u157006 : Value).ownBlock ∧ k_ ≠ gb154 ∧ k_ ≠ gb155 ∧ k_ ≠ gb156) (.slice A0_4 l0_4.length c0_4) l0_4) ∧ A0s (Kd.V (Kd.int .i64) 3 w' w.heap.size (fun k_ => ((P0_4_ k_ ∨ P0_5_ k_) ∨ w.heap.size ≤ k_) ∧ some k_ ≠ (u157006 : Value).ownBlock ∧ k_ ≠ gb154 ∧ k_ ≠ gb155 ∧ k_ ≠ gb156) (.slice A0_5 l0_5.length c0_5) l0_5) ∧ A0s (Kd.R k86 86 w' w.heap.size (fun k_ => (w.heap.size ≤ k_)) u157006 x157006_1) ∧ A0s (w'.heap[gb154]? = some (.cells #[.int .i64 a0_0, .int .i64 a0_1, .int .i64 a0_2, .int .i64 a0_3, (.slice A0_4 l0_4.length c0_4), (.slice A0_5 l0_5.length c0_5), (.slice A0_6 l0_6.length c0_6)] 78 (0, 0))) ∧ A0s (w'.heap[gb155]? = some (.cells #[.int .i64 0, .int .i64 0, .int .i64 0, .int .i64 0, (.slice none 0 0), (.slice none 0 0), (.slice none 0 0)] 81 (0, 0))) ∧ A0s (w'.heap[gb156]? = some (.cells #[.int .i64 a0_0, .int .i64 a0_1, .int .i64 a0_2, .int .i64 a0_3, (.slice A0_4 l0_4.length c0_4), (.slice A0_5 l0_5.length c0_5), u157006] 81 (0, 0))) ∧ A0s (Below w.heap.size w w'))
 case atStart => exact ⟨(0), (([] : List (S86))), (.slice none 0 0), (by first | rfl | (simp; done) | (simp [*]; done)), H', ⟨Nat.le_refl _⟩, ⟨by (with_reducible repeat (first | apply Kd.V_alloc | apply Kd.V_drewN | apply Kd.V_drew)); exact Kd.V_mono (Kd.V_far (p := ⟨gb156, 6, none⟩) (Kd.V_far (p := ⟨gb156, 5, none⟩) (Kd.V_far (p := ⟨gb156, 4, none⟩) (Kd.V_far (p := ⟨gb156, 3, none⟩) (Kd.V_far (p := ⟨gb156, 2, none⟩) (Kd.V_far (p := ⟨gb156, 1, none⟩) (Kd.V_far (p := ⟨gb156, 0, none⟩) (Kd.V_mono HO0_4.out (fun k_ hk => (⟨hk, hk.2⟩ : _ ∧ k_ ≠ gb156))) (fun _ hk => hk.2) (.int .i64 a0_0)) (fun _ hk => hk.2) (.int .i64 a0_1)) (fun _ hk => hk.2) (.int .i64 a0_2)) (fun _ hk => hk.2) (.int .i64 a0_3)) (fun _ hk => hk.2) (.slice A0_4 l0_4.length c0_4)) (fun _ hk => hk.2) (.slice A0_5 l0_5.length c0_5)) (fun _ hk => hk.2) (.slice none 0 0)) (fun _ hk => ⟨hk.1.1.1.1, ⟨(by simp [Value.ownBlock]), ⟨hk.1.1.1.2, ⟨hk.1.1.2, hk.1.2⟩⟩⟩⟩)⟩, ⟨by (with_reducible repeat (first | apply Kd.V_alloc | apply Kd.V_drewN | apply Kd.V_drew)); exact Kd.V_mono (Kd.V_far (p := ⟨gb156, 6, none⟩) (Kd.V_far (p := ⟨gb156, 5, none⟩) (Kd.V_far (p := ⟨gb156, 4, none⟩) (Kd.V_far (p := ⟨gb156, 3, none⟩) (Kd.V_far (p := ⟨gb156, 2, none⟩) (Kd.V_far (p := ⟨gb156, 1, none⟩) (Kd.V_far (p := ⟨gb156, 0, none⟩) (Kd.V_mono HO0_5.out (fun k_ hk => (⟨hk, hk.2⟩ : _ ∧ k_ ≠ gb156))) (fun _ hk => hk.2) (.int .i64 a0_0)) (fun _ hk => hk.2) (.int .i64 a0_1)) (fun _ hk => hk.2) (.int .i64 a0_2)) (fun _ hk => hk.2) (.int .i64 a0_3)) (fun _ hk => hk.2) (.slice A0_4 l0_4.length c0_4)) (fun _ hk => hk.2) (.slice A0_5 l0_5.length c0_5)) (fun _ hk => hk.2) (.slice none 0 0)) (fun _ hk => ⟨hk.1.1.1.1, ⟨(by simp [Value.ownBlock]), ⟨hk.1.1.1.2, ⟨hk.1.1.2, hk.1.2⟩⟩⟩⟩)⟩, ⟨by (with_reducible repeat (first | apply Kd.V_alloc | apply Kd.V_drewN | apply Kd.V_drew)); exact Kd.V_mono (Kd.V_far (p := ⟨gb156, 6, none⟩) (Kd.V_far (p := ⟨gb156, 5, none⟩) (Kd.V_far (p := ⟨gb156, 4, none⟩) (Kd.V_far (p := ⟨gb156, 3, none⟩) (Kd.V_far (p := ⟨gb156, 2, none⟩) (Kd.V_far (p := ⟨gb156, 1, none⟩) (Kd.V_far (p := ⟨gb156, 0, none⟩) (Kd.V_mono HO0_4.out (fun k_ hk => (⟨hk, hk.2⟩ : _ ∧ k_ ≠ gb156))) (fun _ hk => hk.2) (.int .i64 a0_0)) (fun _ hk => hk.2) (.int .i64 a0_1)) (fun _ hk => hk.2) (.int .i64 a0_2)) (fun _ hk => hk.2) (.int .i64 a0_3)) (fun _ hk => hk.2) (.slice A0_4 l0_4.length c0_4)) (fun _ hk => hk.2) (.slice A0_5 l0_5.length c0_5)) (fun _ hk => hk.2) (.slice none 0 0)) (fun _ hk => ⟨hk.1.1.1.1, ⟨(by simp [Value.ownBlock]), ⟨hk.1.1.1.2, ⟨hk.1.1.2, hk.1.2⟩⟩⟩⟩)⟩, ⟨by (with_reducible repeat (first | apply Kd.V_alloc | apply Kd.V_drewN | apply Kd.V_drew)); exact Kd.V_mono (Kd.V_far (p := ⟨gb156, 6, none⟩) (Kd.V_far (p := ⟨gb156, 5, none⟩) (Kd.V_far (p := ⟨gb156, 4, none⟩) (Kd.V_far (p := ⟨gb156, 3, none⟩) (Kd.V_far (p := ⟨gb156, 2, none⟩) (Kd.V_far (p := ⟨gb156, 1, none⟩) (Kd.V_far (p := ⟨gb156, 0, none⟩) (Kd.V_mono HO0_5.out (fun k_ hk => (⟨hk, hk.2⟩ : _ ∧ k_ ≠ gb156))) (fun _ hk => hk.2) (.int .i64 a0_0)) (fun _ hk => hk.2) (.int .i64 a0_1)) (fun _ hk => hk.2) (.int .i64 a0_2)) (fun _ hk => hk.2) (.int .i64 a0_3)) (fun _ hk => hk.2) (.slice A0_4 l0_4.length c0_4)) (fun _ hk => hk.2) (.slice A0_5 l0_5.length c0_5)) (fun _ hk => hk.2) (.slice none 0 0)) (fun _ hk => ⟨hk.1.1.1.1, ⟨(by simp [Value.ownBlock]), ⟨hk.1.1.1.2, ⟨hk.1.1.2, hk.1.2⟩⟩⟩⟩)⟩, ⟨by first | exact Kd.R_nil _ _ _ _ _ | exact Kd.N_nil _ _ _ _ _ | exact Kd.V_nil _ _ _ _ _ | exact Kd.Q_nil _ _ _ _ _ | exact Kd.S_nil _ _ _ _ _⟩, ⟨by (with_reducible repeat (first | apply kN | apply kD | apply kA)); refine blk_far ?_ NB154_156.out _; (with_reducible repeat (first | apply kN | apply kD | apply kA)); refine blk_far ?_ NB154_156.out _; (with_reducible repeat (first | apply kN | apply kD | apply kA)); refine blk_far ?_ NB154_156.out _; (with_reducible repeat (first | apply kN | apply kD | apply kA)); refine blk_far ?_ NB154_156.out _; (with_reducible repeat (first | apply kN | apply kD | apply kA)); refine blk_far ?_ NB154_156.out _; (with_reducible repeat (first | apply kN | apply kD | apply kA)); refine blk_far ?_ NB154_156.out _; (with_reducible repeat (first | apply kN | apply kD | apply kA)); refine blk_far ?_ NB154_156.out _; (with_reducible repeat (first | apply kN | apply kD | apply kA)); exact BK154.out⟩, ⟨by (with_reducible repeat (first | apply kN | apply kD | apply kA)); refine blk_far ?_ NB155_156.out _; (with_reducible repeat (first | apply kN | apply kD | apply kA)); refine blk_far ?_ NB155_156.out _; (with_reducible repeat (first | apply kN | apply kD | apply kA)); refine blk_far ?_ NB155_156.out _; (with_reducible repeat (first | apply kN | apply kD | apply kA)); refine blk_far ?_ NB155_156.out _; (with_reducible repeat (first | apply kN | apply kD | apply kA)); refine blk_far ?_ NB155_156.out _; (with_reducible repeat (first | apply kN | apply kD | apply kA)); refine blk_far ?_ NB155_156.out _; (with_reducible repeat (first | apply kN | apply kD | apply kA)); refine blk_far ?_ NB155_156.out _; (with_reducible repeat (first | apply kN | apply kD | apply kA)); exact BK155.out⟩, ⟨by (with_reducible repeat (first | apply kN | apply kD | apply kA)); refine blk_put (cs := #[.int .i64 a0_0, .int .i64 a0_1, .int .i64 a0_2, .int .i64 a0_3, .slice A0_4 l0_4.length c0_4, .slice A0_5 l0_5.length c0_5, .slice none 0 0]) ?_ 6 _ rfl; (with_reducible repeat (first | apply kN | apply kD | apply kA)); refine blk_put (cs := #[.int .i64 a0_0, .int .i64 a0_1, .int .i64 a0_2, .int .i64 a0_3, .slice A0_4 l0_4.length c0_4, .slice none 0 0, .slice none 0 0]) ?_ 5 _ rfl; (with_reducible repeat (first | apply kN | apply kD | apply kA)); refine blk_put (cs := #[.int .i64 a0_0, .int .i64 a0_1, .int .i64 a0_2, .int .i64 a0_3, .slice none 0 0, .slice none 0 0, .slice none 0 0]) ?_ 4 _ rfl; (with_reducible repeat (first | apply kN | apply kD | apply kA)); refine blk_put (cs := #[.int .i64 a0_0, .int .i64 a0_1, .int .i64 a0_2, .int .i64 0, .slice none 0 0, .slice none 0 0, .slice none 0 0]) ?_ 3 _ rfl; (with_reducible repeat (first | apply kN | apply kD | apply kA)); refine blk_put (cs := #[.int .i64 a0_0, .int .i64 a0_1, .int .i64 0, .int .i64 0, .slice none 0 0, .slice none 0 0, .slice none 0 0]) ?_ 2 _ rfl; (with_reducible repeat (first | apply kN | apply kD | apply kA)); refine blk_put (cs := #[.int .i64 a0_0, .int .i64 0, .int .i64 0, .int .i64 0, .slice none 0 0, .slice none 0 0, .slice none 0 0]) ?_ 1 _ rfl; (with_reducible repeat (first | apply kN | apply kD | apply kA)); refine blk_put (cs := #[.int .i64 0, .int .i64 0, .int .i64 0, .int .i64 0, .slice none 0 0, .slice none 0 0, .slice none 0 0]) ?_ 0 _ rfl; (with_reducible repeat (first | apply kN | apply kD | apply kA)); exact BK156.out⟩, ⟨by repeat (first | (with_reducible first | exact HB.out | apply bA | apply bN | apply bD | refine bS ?_ GE154.out | refine bS ?_ GE155.out | refine bS ?_ GE156.out) | exact HB.out)⟩⟩
 case round =>
  clear H'
  try clear p2
  try clear c4
  try clear c7
  try clear c8
  try clear hcz5_0
  try clear hcz5_1
  try clear hcz5_2
  try clear hcz5_3
  try clear hcz5_4
  try clear hcz5_5
  try clear hcz5_6
  try clear hcz9_0
  try clear hcz9_1
  try clear hcz9_2
  try clear hcz9_3
  try clear hcz9_4
  try clear hcz9_5
  try clear hcz9_6
  try clear hfz5_0
  try clear hfz5_1
  try clear hfz5_2
  try clear hfz5_3
  try clear hfz5_4
  try clear hfz5_5
  try clear hfz5_6
  try clear hfz9_0
  try clear hfz9_1
  try clear hfz9_2
  try clear hfz9_3
  try clear hfz9_4
  try clear hfz9_5
  try clear hfz9_6
  obtain ⟨x4_1, x157006_1, u157006, rfl, HA, HK1, HO_155004, HO_155005, HO_157004, HO_157005, HO_157006, BK154, BK155, BK156, HB⟩ := hrel
  cases gk with
  | zero => exact absurd HA.out (by simp [stopgatelaw05_Ref.l0])
  | succ k1 =>
   have H := HA.out
   clear HA
   simp only [stopgatelaw05_Ref.l0] at H
   by_cases c10 : x4_1 < (l0_6.length : Int)
   ·rw [if_pos c10] at H
    have c10b0 : decide (x4_1 < (l0_6.length : Int)) = true := decide_eq_true c10
    clear c10
    by_cases c11 : 0 ≤ x4_1
    ·rw [if_pos c11] at H
     have c11b0 : decide (0 ≤ x4_1) = true := decide_eq_true c11
     clear c11
     by_cases c12 : x157006_1.length < 4398046511104
     ·rw [if_pos c12] at H
      have LMc12 := A0s.mk c12
      clear c12
      obtain ⟨y159, hy159⟩ : ∃ y_ : List (S86), y_ = (x157006_1 ++ [(⟨(rd_T145 l0_6 x4_1).f0, (rd_T145 l0_6 x4_1).f1, (rd_T145 l0_6 x4_1).f2, ((rd_T145 l0_6 x4_1).f3).toNat⟩ : S86)]) := ⟨_, rfl⟩
      replace H : (stopgatelaw05_Ref.l0 k1 (wrap64 (x4_1 + 1)) a0_0 a0_1 a0_2 a0_3 l0_4 l0_5 l0_6 a0_0 a0_1 a0_2 a0_3 l0_4 l0_5 y159) = some (r1, r2, r3, r4, r5, r6, r7) := by first | (rw [hy159]; with_reducible exact H) | (have H2_ := (Option.bind_some _ _).symm.trans H; rw [hy159]; with_reducible exact H2_) | (have H2_ := (Option.bind_some _ _).symm.trans H; with_reducible exact H2_) | with_reducible exact H | (rw [hy159]; exact H) | exact H
      have Ny159 := A0s.mk hy159
      clear hy159
      have H' := A0s.mk H
      clear H
      have hnb13 := NB154_155.out
      have hnc13 := NB155_154.out
      have hnb14 := NB154_156.out
      have hnc14 := NB156_154.out
      obtain ⟨hcz15_0, hcz15_1, hcz15_2, hcz15_3, hcz15_4, hcz15_5, hcz15_6, hfz15_0, hfz15_1, hfz15_2, hfz15_3, hfz15_4, hfz15_5, hfz15_6⟩ := blk_all7 BK154.out
      have p157 : 0 ≤ (x4_1 : Int) := of_decide_eq_true (by first | (with_reducible assumption) | assumption)
      have q157 : x4_1 < (l0_6.length : Int) := of_decide_eq_true (by first | (with_reducible assumption) | assumption)
      obtain ⟨ad157, e157, hx157_0, hx157_1, hx157_2, hx157_3⟩ := at_T145 HR0_6.out x4_1 p157 q157
      cases e157
      replace hx157_0 := (HB.out.cell (World.block_lt_of_cell? w _ hx157_0)).trans hx157_0
      replace hx157_1 := (HB.out.cell (World.block_lt_of_cell? w _ hx157_1)).trans hx157_1
      replace hx157_2 := (HB.out.cell (World.block_lt_of_cell? w _ hx157_2)).trans hx157_2
      replace hx157_3 := (HB.out.cell (World.block_lt_of_cell? w _ hx157_3)).trans hx157_3
      replace p157 := eq_true p157
      replace q157 := eq_true q157
      try go_wp2_with (first | ((with_reducible refine gate_dst (N := 5) rfl ?_); refine box_event ?hg (N := 5) ?hd (cs := #[.int .i64 0, .int .i64 0, .int .i64 0, .int .u64 0]) (t := 145) ?hr ?_; (case hd => rfl); (case hg => rfl); (case hr => first | (go_simp; done) | (go_simp; rfl)); intro gb158 hg w16 hbox hb; have n0_ := A0s.mk (Kd.V_below (Kd.V_elderB (by (with_reducible repeat (first | apply Kd.V_alloc | apply Kd.V_drewN | apply Kd.V_drew)); exact HO_155004.out) gb158 (Nat.le_of_eq hg.symm)) hb); have n1_ := A0s.mk (Kd.V_below (Kd.V_elderB (by (with_reducible repeat (first | apply Kd.V_alloc | apply Kd.V_drewN | apply Kd.V_drew)); exact HO_155005.out) gb158 (Nat.le_of_eq hg.symm)) hb); have n2_ := A0s.mk (Kd.V_below (Kd.V_elderB (by (with_reducible repeat (first | apply Kd.V_alloc | apply Kd.V_drewN | apply Kd.V_drew)); exact HO_157004.out) gb158 (Nat.le_of_eq hg.symm)) hb); have n3_ := A0s.mk (Kd.V_below (Kd.V_elderB (by (with_reducible repeat (first | apply Kd.V_alloc | apply Kd.V_drewN | apply Kd.V_drew)); exact HO_157005.out) gb158 (Nat.le_of_eq hg.symm)) hb); have n4_ := A0s.mk (Kd.R_below (by (with_reducible repeat (first | apply Kd.RA | apply Kd.RN | apply Kd.RD)); exact HO_157006.out) hb); have n5_ := A0s.mk (blk_below (g := gb154) (o := .cells #[.int .i64 a0_0, .int .i64 a0_1, .int .i64 a0_2, .int .i64 a0_3, .slice A0_4 l0_4.length c0_4, .slice A0_5 l0_5.length c0_5, .slice (some ad157) l0_6.length c0_6] 78 (0, 0)) (by (with_reducible repeat (first | apply kN | apply kD | apply kA)); exact BK154.out) hb); have n6_ := A0s.mk (blk_below (g := gb155) (o := .cells #[.int .i64 0, .int .i64 0, .int .i64 0, .int .i64 0, .slice none 0 0, .slice none 0 0, .slice none 0 0] 81 (0, 0)) (by (with_reducible repeat (first | apply kN | apply kD | apply kA)); exact BK155.out) hb); have n7_ := A0s.mk (blk_below (g := gb156) (o := .cells #[.int .i64 a0_0, .int .i64 a0_1, .int .i64 a0_2, .int .i64 a0_3, .slice A0_4 l0_4.length c0_4, .slice A0_5 l0_5.length c0_5, u157006] 81 (0, 0)) (by (with_reducible repeat (first | apply kN | apply kD | apply kA)); exact BK156.out) hb); have n8_ := A0s.mk (below_step (by repeat (first | (with_reducible first | exact HB.out | apply bA | apply bN | apply bD | refine bS ?_ GE154.out | refine bS ?_ GE155.out | refine bS ?_ GE156.out) | exact HB.out)) hb); have n9_ := A0s.mk (hbox); have n10_ := A0s.mk ((by rw [hg]; exact (below_size (by repeat (first | (with_reducible first | exact HB.out | apply bA | apply bN | apply bD | refine bS ?_ GE154.out | refine bS ?_ GE155.out | refine bS ?_ GE156.out) | exact HB.out))) : w.heap.size ≤ gb158)); have n11_ := A0s.mk ((by rw [hg]; exact (below_size (by repeat (first | (with_reducible first | exact HB.out | apply bA | apply bN | apply bD | refine bS ?_ GE154.out | refine bS ?_ GE155.out | refine bS ?_ GE156.out) | exact HB.out))) : w.heap.size ≤ gb158)); have n12_ := A0s.mk ((by rw [hg]; exact Nat.ne_of_lt (blk_lt (g := gb154) (o := .cells #[.int .i64 a0_0, .int .i64 a0_1, .int .i64 a0_2, .int .i64 a0_3, .slice A0_4 l0_4.length c0_4, .slice A0_5 l0_5.length c0_5, .slice (some ad157) l0_6.length c0_6] 78 (0, 0)) (by (with_reducible repeat (first | apply kN | apply kD | apply kA)); exact BK154.out)) : gb154 ≠ gb158)); have n13_ := A0s.mk ((by rw [hg]; exact Nat.ne_of_gt (blk_lt (g := gb154) (o := .cells #[.int .i64 a0_0, .int .i64 a0_1, .int .i64 a0_2, .int .i64 a0_3, .slice A0_4 l0_4.length c0_4, .slice A0_5 l0_5.length c0_5, .slice (some ad157) l0_6.length c0_6] 78 (0, 0)) (by (with_reducible repeat (first | apply kN | apply kD | apply kA)); exact BK154.out)) : gb158 ≠ gb154)); have n14_ := A0s.mk ((by rw [hg]; exact Nat.ne_of_lt (blk_lt (g := gb155) (o := .cells #[.int .i64 0, .int .i64 0, .int .i64 0, .int .i64 0, .slice none 0 0, .slice none 0 0, .slice none 0 0] 81 (0, 0)) (by (with_reducible repeat (first | apply kN | apply kD | apply kA)); exact BK155.out)) : gb155 ≠ gb158)); have n15_ := A0s.mk ((by rw [hg]; exact Nat.ne_of_gt (blk_lt (g := gb155) (o := .cells #[.int .i64 0, .int .i64 0, .int .i64 0, .int .i64 0, .slice none 0 0, .slice none 0 0, .slice none 0 0] 81 (0, 0)) (by (with_reducible repeat (first | apply kN | apply kD | apply kA)); exact BK155.out)) : gb158 ≠ gb155)); have n16_ := A0s.mk ((by rw [hg]; exact Nat.ne_of_lt (blk_lt (g := gb156) (o := .cells #[.int .i64 a0_0, .int .i64 a0_1, .int .i64 a0_2, .int .i64 a0_3, .slice A0_4 l0_4.length c0_4, .slice A0_5 l0_5.length c0_5, u157006] 81 (0, 0)) (by (with_reducible repeat (first | apply kN | apply kD | apply kA)); exact BK156.out)) : gb156 ≠ gb158)); have n17_ := A0s.mk ((by rw [hg]; exact Nat.ne_of_gt (blk_lt (g := gb156) (o := .cells #[.int .i64 a0_0, .int .i64 a0_1, .int .i64 a0_2, .int .i64 a0_3, .slice A0_4 l0_4.length c0_4, .slice A0_5 l0_5.length c0_5, u157006] 81 (0, 0)) (by (with_reducible repeat (first | apply kN | apply kD | apply kA)); exact BK156.out)) : gb158 ≠ gb156)); clear HO_155004; clear HO_155005; clear HO_157004; clear HO_157005; clear HO_157006; clear BK154; clear BK155; clear BK156; clear HB; have HO_155004 := n0_; have HO_155005 := n1_; have HO_157004 := n2_; have HO_157005 := n3_; have HO_157006 := n4_; have BK154 := n5_; have BK155 := n6_; have BK156 := n7_; have HB := n8_; have BK158 := n9_; have GW158 := n10_; have GE158 := n11_; have NB154_158 := n12_; have NB158_154 := n13_; have NB155_158 := n14_; have NB158_155 := n15_; have NB156_158 := n16_; have NB158_156 := n17_; clear n0_ n1_ n2_ n3_ n4_ n5_ n6_ n7_ n8_ n9_ n10_ n11_ n12_ n13_ n14_ n15_ n16_ n17_; clear hb hbox hg; have hnb17 := NB158_154.out; have hnc17 := NB154_158.out; have hnb18 := NB158_155.out; have hnc18 := NB155_158.out; have hnb19 := NB158_156.out; have hnc19 := NB156_158.out; obtain ⟨hcz20_0, hcz20_1, hcz20_2, hcz20_3, hfz20_0, hfz20_1, hfz20_2, hfz20_3⟩ := blk_all4 BK158.out))
      have n0_ : A0s (Kd.V k176 176 ((((w16.setCell ⟨gb158, 0, none⟩ (.int .i64 ((rd_T145 l0_6 x4_1).f0))).setCell ⟨gb158, 1, none⟩ (.int .i64 ((rd_T145 l0_6 x4_1).f1))).setCell ⟨gb158, 2, none⟩ (.int .i64 ((rd_T145 l0_6 x4_1).f2))).setCell ⟨gb158, 3, none⟩ (.int .u64 ((rd_T145 l0_6 x4_1).f3))) w.heap.size (fun k_ => ((P0_4_ k_ ∨ P0_5_ k_) ∨ w.heap.size ≤ k_) ∧ some k_ ≠ (u157006 : Value).ownBlock ∧ k_ ≠ gb154 ∧ k_ ≠ gb155 ∧ k_ ≠ gb156 ∧ k_ ≠ gb158) (.slice A0_4 l0_4.length c0_4) l0_4) := ⟨by (with_reducible repeat (first | apply Kd.V_alloc | apply Kd.V_drewN | apply Kd.V_drew)); exact Kd.V_mono (Kd.V_far (p := ⟨gb158, 3, none⟩) (Kd.V_far (p := ⟨gb158, 2, none⟩) (Kd.V_far (p := ⟨gb158, 1, none⟩) (Kd.V_far (p := ⟨gb158, 0, none⟩) (Kd.V_mono HO_155004.out (fun k_ hk => (⟨hk, hk.2⟩ : _ ∧ k_ ≠ gb158))) (fun _ hk => hk.2) (.int .i64 ((rd_T145 l0_6 x4_1).f0))) (fun _ hk => hk.2) (.int .i64 ((rd_T145 l0_6 x4_1).f1))) (fun _ hk => hk.2) (.int .i64 ((rd_T145 l0_6 x4_1).f2))) (fun _ hk => hk.2) (.int .u64 ((rd_T145 l0_6 x4_1).f3))) (fun _ hk => ⟨hk.1.1.1, ⟨hk.1.1.2.1, ⟨hk.1.1.2.2.1, ⟨hk.1.1.2.2.2.1, ⟨hk.1.1.2.2.2.2, hk.1.2⟩⟩⟩⟩⟩)⟩
      have n1_ : A0s (Kd.V (Kd.int .i64) 3 ((((w16.setCell ⟨gb158, 0, none⟩ (.int .i64 ((rd_T145 l0_6 x4_1).f0))).setCell ⟨gb158, 1, none⟩ (.int .i64 ((rd_T145 l0_6 x4_1).f1))).setCell ⟨gb158, 2, none⟩ (.int .i64 ((rd_T145 l0_6 x4_1).f2))).setCell ⟨gb158, 3, none⟩ (.int .u64 ((rd_T145 l0_6 x4_1).f3))) w.heap.size (fun k_ => ((P0_4_ k_ ∨ P0_5_ k_) ∨ w.heap.size ≤ k_) ∧ some k_ ≠ (u157006 : Value).ownBlock ∧ k_ ≠ gb154 ∧ k_ ≠ gb155 ∧ k_ ≠ gb156 ∧ k_ ≠ gb158) (.slice A0_5 l0_5.length c0_5) l0_5) := ⟨by (with_reducible repeat (first | apply Kd.V_alloc | apply Kd.V_drewN | apply Kd.V_drew)); exact Kd.V_mono (Kd.V_far (p := ⟨gb158, 3, none⟩) (Kd.V_far (p := ⟨gb158, 2, none⟩) (Kd.V_far (p := ⟨gb158, 1, none⟩) (Kd.V_far (p := ⟨gb158, 0, none⟩) (Kd.V_mono HO_155005.out (fun k_ hk => (⟨hk, hk.2⟩ : _ ∧ k_ ≠ gb158))) (fun _ hk => hk.2) (.int .i64 ((rd_T145 l0_6 x4_1).f0))) (fun _ hk => hk.2) (.int .i64 ((rd_T145 l0_6 x4_1).f1))) (fun _ hk => hk.2) (.int .i64 ((rd_T145 l0_6 x4_1).f2))) (fun _ hk => hk.2) (.int .u64 ((rd_T145 l0_6 x4_1).f3))) (fun _ hk => ⟨hk.1.1.1, ⟨hk.1.1.2.1, ⟨hk.1.1.2.2.1, ⟨hk.1.1.2.2.2.1, ⟨hk.1.1.2.2.2.2, hk.1.2⟩⟩⟩⟩⟩)⟩
      have n2_ : A0s (Kd.V k176 176 ((((w16.setCell ⟨gb158, 0, none⟩ (.int .i64 ((rd_T145 l0_6 x4_1).f0))).setCell ⟨gb158, 1, none⟩ (.int .i64 ((rd_T145 l0_6 x4_1).f1))).setCell ⟨gb158, 2, none⟩ (.int .i64 ((rd_T145 l0_6 x4_1).f2))).setCell ⟨gb158, 3, none⟩ (.int .u64 ((rd_T145 l0_6 x4_1).f3))) w.heap.size (fun k_ => ((P0_4_ k_ ∨ P0_5_ k_) ∨ w.heap.size ≤ k_) ∧ some k_ ≠ (u157006 : Value).ownBlock ∧ k_ ≠ gb154 ∧ k_ ≠ gb155 ∧ k_ ≠ gb156 ∧ k_ ≠ gb158) (.slice A0_4 l0_4.length c0_4) l0_4) := ⟨by (with_reducible repeat (first | apply Kd.V_alloc | apply Kd.V_drewN | apply Kd.V_drew)); exact Kd.V_mono (Kd.V_far (p := ⟨gb158, 3, none⟩) (Kd.V_far (p := ⟨gb158, 2, none⟩) (Kd.V_far (p := ⟨gb158, 1, none⟩) (Kd.V_far (p := ⟨gb158, 0, none⟩) (Kd.V_mono HO_157004.out (fun k_ hk => (⟨hk, hk.2⟩ : _ ∧ k_ ≠ gb158))) (fun _ hk => hk.2) (.int .i64 ((rd_T145 l0_6 x4_1).f0))) (fun _ hk => hk.2) (.int .i64 ((rd_T145 l0_6 x4_1).f1))) (fun _ hk => hk.2) (.int .i64 ((rd_T145 l0_6 x4_1).f2))) (fun _ hk => hk.2) (.int .u64 ((rd_T145 l0_6 x4_1).f3))) (fun _ hk => ⟨hk.1.1.1, ⟨hk.1.1.2.1, ⟨hk.1.1.2.2.1, ⟨hk.1.1.2.2.2.1, ⟨hk.1.1.2.2.2.2, hk.1.2⟩⟩⟩⟩⟩)⟩
      have n3_ : A0s (Kd.V (Kd.int .i64) 3 ((((w16.setCell ⟨gb158, 0, none⟩ (.int .i64 ((rd_T145 l0_6 x4_1).f0))).setCell ⟨gb158, 1, none⟩ (.int .i64 ((rd_T145 l0_6 x4_1).f1))).setCell ⟨gb158, 2, none⟩ (.int .i64 ((rd_T145 l0_6 x4_1).f2))).setCell ⟨gb158, 3, none⟩ (.int .u64 ((rd_T145 l0_6 x4_1).f3))) w.heap.size (fun k_ => ((P0_4_ k_ ∨ P0_5_ k_) ∨ w.heap.size ≤ k_) ∧ some k_ ≠ (u157006 : Value).ownBlock ∧ k_ ≠ gb154 ∧ k_ ≠ gb155 ∧ k_ ≠ gb156 ∧ k_ ≠ gb158) (.slice A0_5 l0_5.length c0_5) l0_5) := ⟨by (with_reducible repeat (first | apply Kd.V_alloc | apply Kd.V_drewN | apply Kd.V_drew)); exact Kd.V_mono (Kd.V_far (p := ⟨gb158, 3, none⟩) (Kd.V_far (p := ⟨gb158, 2, none⟩) (Kd.V_far (p := ⟨gb158, 1, none⟩) (Kd.V_far (p := ⟨gb158, 0, none⟩) (Kd.V_mono HO_157005.out (fun k_ hk => (⟨hk, hk.2⟩ : _ ∧ k_ ≠ gb158))) (fun _ hk => hk.2) (.int .i64 ((rd_T145 l0_6 x4_1).f0))) (fun _ hk => hk.2) (.int .i64 ((rd_T145 l0_6 x4_1).f1))) (fun _ hk => hk.2) (.int .i64 ((rd_T145 l0_6 x4_1).f2))) (fun _ hk => hk.2) (.int .u64 ((rd_T145 l0_6 x4_1).f3))) (fun _ hk => ⟨hk.1.1.1, ⟨hk.1.1.2.1, ⟨hk.1.1.2.2.1, ⟨hk.1.1.2.2.2.1, ⟨hk.1.1.2.2.2.2, hk.1.2⟩⟩⟩⟩⟩)⟩
      have n4_ : A0s (Kd.R k86 86 ((((w16.setCell ⟨gb158, 0, none⟩ (.int .i64 ((rd_T145 l0_6 x4_1).f0))).setCell ⟨gb158, 1, none⟩ (.int .i64 ((rd_T145 l0_6 x4_1).f1))).setCell ⟨gb158, 2, none⟩ (.int .i64 ((rd_T145 l0_6 x4_1).f2))).setCell ⟨gb158, 3, none⟩ (.int .u64 ((rd_T145 l0_6 x4_1).f3))) w.heap.size (fun k_ => (w.heap.size ≤ k_)) u157006 x157006_1) := ⟨by (with_reducible repeat (first | apply Kd.RA | apply Kd.RN | apply Kd.RD)); exact Kd.R_mono (Kd.R_far (p := ⟨gb158, 3, none⟩) (Kd.R_far (p := ⟨gb158, 2, none⟩) (Kd.R_far (p := ⟨gb158, 1, none⟩) (Kd.R_far (p := ⟨gb158, 0, none⟩) (Kd.R_types HO_157006.out BK158.out (by decide)) (fun _ hk => hk.2) (.int .i64 ((rd_T145 l0_6 x4_1).f0))) (fun _ hk => hk.2) (.int .i64 ((rd_T145 l0_6 x4_1).f1))) (fun _ hk => hk.2) (.int .i64 ((rd_T145 l0_6 x4_1).f2))) (fun _ hk => hk.2) (.int .u64 ((rd_T145 l0_6 x4_1).f3))) (fun _ hk => hk.1)⟩
      have n5_ : A0s (((((w16.setCell ⟨gb158, 0, none⟩ (.int .i64 ((rd_T145 l0_6 x4_1).f0))).setCell ⟨gb158, 1, none⟩ (.int .i64 ((rd_T145 l0_6 x4_1).f1))).setCell ⟨gb158, 2, none⟩ (.int .i64 ((rd_T145 l0_6 x4_1).f2))).setCell ⟨gb158, 3, none⟩ (.int .u64 ((rd_T145 l0_6 x4_1).f3))).heap[gb154]? = some (.cells #[.int .i64 a0_0, .int .i64 a0_1, .int .i64 a0_2, .int .i64 a0_3, .slice A0_4 l0_4.length c0_4, .slice A0_5 l0_5.length c0_5, .slice (some ad157) l0_6.length c0_6] 78 (0, 0))) := ⟨by (with_reducible repeat (first | apply kN | apply kD | apply kA)); refine blk_far ?_ NB154_158.out _; (with_reducible repeat (first | apply kN | apply kD | apply kA)); refine blk_far ?_ NB154_158.out _; (with_reducible repeat (first | apply kN | apply kD | apply kA)); refine blk_far ?_ NB154_158.out _; (with_reducible repeat (first | apply kN | apply kD | apply kA)); refine blk_far ?_ NB154_158.out _; (with_reducible repeat (first | apply kN | apply kD | apply kA)); exact BK154.out⟩
      have n6_ : A0s (((((w16.setCell ⟨gb158, 0, none⟩ (.int .i64 ((rd_T145 l0_6 x4_1).f0))).setCell ⟨gb158, 1, none⟩ (.int .i64 ((rd_T145 l0_6 x4_1).f1))).setCell ⟨gb158, 2, none⟩ (.int .i64 ((rd_T145 l0_6 x4_1).f2))).setCell ⟨gb158, 3, none⟩ (.int .u64 ((rd_T145 l0_6 x4_1).f3))).heap[gb155]? = some (.cells #[.int .i64 0, .int .i64 0, .int .i64 0, .int .i64 0, .slice none 0 0, .slice none 0 0, .slice none 0 0] 81 (0, 0))) := ⟨by (with_reducible repeat (first | apply kN | apply kD | apply kA)); refine blk_far ?_ NB155_158.out _; (with_reducible repeat (first | apply kN | apply kD | apply kA)); refine blk_far ?_ NB155_158.out _; (with_reducible repeat (first | apply kN | apply kD | apply kA)); refine blk_far ?_ NB155_158.out _; (with_reducible repeat (first | apply kN | apply kD | apply kA)); refine blk_far ?_ NB155_158.out _; (with_reducible repeat (first | apply kN | apply kD | apply kA)); exact BK155.out⟩
      have n7_ : A0s (((((w16.setCell ⟨gb158, 0, none⟩ (.int .i64 ((rd_T145 l0_6 x4_1).f0))).setCell ⟨gb158, 1, none⟩ (.int .i64 ((rd_T145 l0_6 x4_1).f1))).setCell ⟨gb158, 2, none⟩ (.int .i64 ((rd_T145 l0_6 x4_1).f2))).setCell ⟨gb158, 3, none⟩ (.int .u64 ((rd_T145 l0_6 x4_1).f3))).heap[gb156]? = some (.cells #[.int .i64 a0_0, .int .i64 a0_1, .int .i64 a0_2, .int .i64 a0_3, .slice A0_4 l0_4.length c0_4, .slice A0_5 l0_5.length c0_5, u157006] 81 (0, 0))) := ⟨by (with_reducible repeat (first | apply kN | apply kD | apply kA)); refine blk_far ?_ NB156_158.out _; (with_reducible repeat (first | apply kN | apply kD | apply kA)); refine blk_far ?_ NB156_158.out _; (with_reducible repeat (first | apply kN | apply kD | apply kA)); refine blk_far ?_ NB156_158.out _; (with_reducible repeat (first | apply kN | apply kD | apply kA)); refine blk_far ?_ NB156_158.out _; (with_reducible repeat (first | apply kN | apply kD | apply kA)); exact BK156.out⟩
      have n8_ : A0s (((((w16.setCell ⟨gb158, 0, none⟩ (.int .i64 ((rd_T145 l0_6 x4_1).f0))).setCell ⟨gb158, 1, none⟩ (.int .i64 ((rd_T145 l0_6 x4_1).f1))).setCell ⟨gb158, 2, none⟩ (.int .i64 ((rd_T145 l0_6 x4_1).f2))).setCell ⟨gb158, 3, none⟩ (.int .u64 ((rd_T145 l0_6 x4_1).f3))).heap[gb158]? = some (.cells #[.int .i64 ((rd_T145 l0_6 x4_1).f0), .int .i64 ((rd_T145 l0_6 x4_1).f1), .int .i64 ((rd_T145 l0_6 x4_1).f2), .int .u64 ((rd_T145 l0_6 x4_1).f3)] 145 (0, 0))) := ⟨by (with_reducible repeat (first | apply kN | apply kD | apply kA)); refine blk_put (cs := #[.int .i64 ((rd_T145 l0_6 x4_1).f0), .int .i64 ((rd_T145 l0_6 x4_1).f1), .int .i64 ((rd_T145 l0_6 x4_1).f2), .int .u64 0]) ?_ 3 _ rfl; (with_reducible repeat (first | apply kN | apply kD | apply kA)); refine blk_put (cs := #[.int .i64 ((rd_T145 l0_6 x4_1).f0), .int .i64 ((rd_T145 l0_6 x4_1).f1), .int .i64 0, .int .u64 0]) ?_ 2 _ rfl; (with_reducible repeat (first | apply kN | apply kD | apply kA)); refine blk_put (cs := #[.int .i64 ((rd_T145 l0_6 x4_1).f0), .int .i64 0, .int .i64 0, .int .u64 0]) ?_ 1 _ rfl; (with_reducible repeat (first | apply kN | apply kD | apply kA)); refine blk_put (cs := #[.int .i64 0, .int .i64 0, .int .i64 0, .int .u64 0]) ?_ 0 _ rfl; (with_reducible repeat (first | apply kN | apply kD | apply kA)); exact BK158.out⟩
      have n9_ : A0s (Below w.heap.size w ((((w16.setCell ⟨gb158, 0, none⟩ (.int .i64 ((rd_T145 l0_6 x4_1).f0))).setCell ⟨gb158, 1, none⟩ (.int .i64 ((rd_T145 l0_6 x4_1).f1))).setCell ⟨gb158, 2, none⟩ (.int .i64 ((rd_T145 l0_6 x4_1).f2))).setCell ⟨gb158, 3, none⟩ (.int .u64 ((rd_T145 l0_6 x4_1).f3)))) := ⟨by repeat (first | (with_reducible first | exact HB.out | apply bA | apply bN | apply bD | refine bS ?_ GE154.out | refine bS ?_ GE155.out | refine bS ?_ GE156.out | refine bS ?_ GE158.out) | exact HB.out)⟩
      (try clear HO_155004)
      (try clear HO_155005)
      (try clear HO_157004)
      (try clear HO_157005)
      (try clear HO_157006)
      (try clear BK154)
      (try clear BK155)
      (try clear BK156)
      (try clear BK158)
      (try clear HB)
      generalize ((((w16.setCell ⟨gb158, 0, none⟩ (.int .i64 ((rd_T145 l0_6 x4_1).f0))).setCell ⟨gb158, 1, none⟩ (.int .i64 ((rd_T145 l0_6 x4_1).f1))).setCell ⟨gb158, 2, none⟩ (.int .i64 ((rd_T145 l0_6 x4_1).f2))).setCell ⟨gb158, 3, none⟩ (.int .u64 ((rd_T145 l0_6 x4_1).f3))) = w21 at n0_ n1_ n2_ n3_ n4_ n5_ n6_ n7_ n8_ n9_ ⊢
      have HO_155004 := n0_
      have HO_155005 := n1_
      have HO_157004 := n2_
      have HO_157005 := n3_
      have HO_157006 := n4_
      have BK154 := n5_
      have BK155 := n6_
      have BK156 := n7_
      have BK158 := n8_
      have HB := n9_
      clear n0_ n1_ n2_ n3_ n4_ n5_ n6_ n7_ n8_ n9_
      have n0_ := A0s.mk (Kd.V_drew HO_155004.out)
      have n1_ := A0s.mk (Kd.V_drew HO_155005.out)
      have n2_ := A0s.mk (Kd.V_drew HO_157004.out)
      have n3_ := A0s.mk (Kd.V_drew HO_157005.out)
      have n4_ := A0s.mk (Kd.RD HO_157006.out)
      have n5_ := A0s.mk (kD BK154.out)
      have n6_ := A0s.mk (kD BK155.out)
      have n7_ := A0s.mk (kD BK156.out)
      have n8_ := A0s.mk (kD BK158.out)
      have n9_ := A0s.mk (bD HB.out)
      clear HO_155004
      clear HO_155005
      clear HO_157004
      clear HO_157005
      clear HO_157006
      clear BK154
      clear BK155
      clear BK156
      clear BK158
      clear HB
      have HO_155004 := n0_
      have HO_155005 := n1_
      have HO_157004 := n2_
      have HO_157005 := n3_
      have HO_157006 := n4_
      have BK154 := n5_
      have BK155 := n6_
      have BK156 := n7_
      have BK158 := n8_
      have HB := n9_
      clear n0_ n1_ n2_ n3_ n4_ n5_ n6_ n7_ n8_ n9_
      refine start_ (n := 16) (S := fun w' => w'.cell? ⟨gb156, 0, none⟩ = some (.int .i64 a0_0) ∧ w'.cell? ⟨gb156, 1, none⟩ = some (.int .i64 a0_1) ∧ w'.cell? ⟨gb156, 2, none⟩ = some (.int .i64 a0_2) ∧ w'.cell? ⟨gb156, 3, none⟩ = some (.int .i64 a0_3) ∧ w'.cell? ⟨gb156, 4, none⟩ = some (.slice A0_4 l0_4.length c0_4) ∧ w'.cell? ⟨gb156, 5, none⟩ = some (.slice A0_5 l0_5.length c0_5) ∧ w'.cell? ⟨gb156, 6, none⟩ = some (u157006) ∧ w'.cell? ⟨gb158, 0, none⟩ = some (.int .i64 ((rd_T145 l0_6 x4_1).f0)) ∧ w'.cell? ⟨gb158, 1, none⟩ = some (.int .i64 ((rd_T145 l0_6 x4_1).f1)) ∧ w'.cell? ⟨gb158, 2, none⟩ = some (.int .i64 ((rd_T145 l0_6 x4_1).f2)) ∧ w'.cell? ⟨gb158, 3, none⟩ = some (.int .u64 ((rd_T145 l0_6 x4_1).f3))) (ds := [15]) #[false, false, false, false, false, false, false, false, false, false, false, false, false, false, false, false] (by kernel_rfl) rfl rfl ⟨(kC BK156.out 0).trans rfl, (kC BK156.out 1).trans rfl, (kC BK156.out 2).trans rfl, (kC BK156.out 3).trans rfl, (kC BK156.out 4).trans rfl, (kC BK156.out 5).trans rfl, (kC BK156.out 6).trans rfl, (kC BK158.out 0).trans rfl, (kC BK158.out 1).trans rfl, (kC BK158.out 2).trans rfl, (kC BK158.out 3).trans rfl⟩ (fun hHeld => ?_); refine with_tabW stopgatelaw05_Ref.tab6 stopgatelaw05_Ref.bits6 (fun HT_ HW_ => ?_)
      generalize w21.drew = w22 at HO_155004 HO_155005 HO_157004 HO_157005 HO_157006 BK154 BK155 BK156 BK158 HB hHeld ⊢
      refine pure_ (i := 0) (N := some 31) (v := ?_) (a' := ?_) #[true, false, false, false, false, false, false, false, false, false, false, false, false, false, false, false] rfl rfl (any_of HT_.out (by kernel_rfl)) (fun _ _ _ h => h) (Or.inl ⟨by rfl, ?_⟩) ?_ ?_
      rotate_left
      ·intro w'
       go_simp
       with_reducible rfl
      rotate_left
      ·simp only [Act.put, List.setIfInBounds_toArray, List.set_cons_zero, List.set_cons_succ, i64_w, i32_w]
       rfl
      refine pure_ (i := 2) (N := some 33) (v := ?_) (a' := ?_) #[true, false, true, false, false, false, false, false, false, false, false, false, false, false, false, false] rfl rfl (any_of HT_.out (by kernel_rfl)) (fun _ _ _ h => h) (Or.inl ⟨by rfl, ?_⟩) ?_ ?_
      rotate_left
      ·intro w'
       go_simp
       with_reducible rfl
      rotate_left
      ·simp only [Act.put, List.setIfInBounds_toArray, List.set_cons_zero, List.set_cons_succ, i64_w, i32_w]
       rfl
      refine pure_ (i := 4) (N := some 35) (v := ?_) (a' := ?_) #[true, false, true, false, true, false, false, false, false, false, false, false, false, false, false, false] rfl rfl (any_of HT_.out (by kernel_rfl)) (fun _ _ _ h => h) (Or.inl ⟨by rfl, ?_⟩) ?_ ?_
      rotate_left
      ·intro w'
       go_simp
       with_reducible rfl
      rotate_left
      ·simp only [Act.put, List.setIfInBounds_toArray, List.set_cons_zero, List.set_cons_succ, i64_w, i32_w]
       rfl
      refine pure_ (i := 6) (N := some 37) (v := ?_) (a' := ?_) #[true, false, true, false, true, false, true, false, false, false, false, false, false, false, false, false] rfl rfl (any_of HT_.out (by kernel_rfl)) (fun _ _ _ h => h) (Or.inl ⟨by rfl, ?_⟩) ?_ ?_
      rotate_left
      ·intro w'
       go_simp
       with_reducible rfl
      rotate_left
      ·simp only [Act.put, List.setIfInBounds_toArray, List.set_cons_zero, List.set_cons_succ, i64_w, i32_w]
       rfl
      refine pure_ (i := 8) (N := some 39) (v := ?_) (a' := ?_) #[true, false, true, false, true, false, true, false, true, false, false, false, false, false, false, false] rfl rfl (any_of HT_.out (by kernel_rfl)) (fun _ _ _ h => h) (Or.inl ⟨by rfl, ?_⟩) ?_ ?_
      rotate_left
      ·intro w'
       go_simp
       with_reducible rfl
      rotate_left
      ·simp only [Act.put, List.setIfInBounds_toArray, List.set_cons_zero, List.set_cons_succ, i64_w, i32_w]
       rfl
      refine take_ (i := 1) (N := some 32) (v := ?_) (a' := ?_) #[true, true, true, false, true, false, true, false, true, false, false, false, false, false, false, false] rfl rfl (take_ofW HT_.out HW_.out (by kernel_rfl)) (fun _ _ _ h => h) (Or.inl ⟨by rfl, ?_⟩) hHeld ?_ ?_
      rotate_left
      ·rintro w' ⟨s0, s1, s2, s3, s4, s5, s6, s7, s8, s9, s10⟩
       go_simp
       with_reducible rfl
      rotate_left
      ·simp only [Act.put, List.setIfInBounds_toArray, List.set_cons_zero, List.set_cons_succ, i64_w, i32_w]
       rfl
      refine take_ (i := 3) (N := some 34) (v := ?_) (a' := ?_) #[true, true, true, true, true, false, true, false, true, false, false, false, false, false, false, false] rfl rfl (take_ofW HT_.out HW_.out (by kernel_rfl)) (fun _ _ _ h => h) (Or.inl ⟨by rfl, ?_⟩) hHeld ?_ ?_
      rotate_left
      ·rintro w' ⟨s0, s1, s2, s3, s4, s5, s6, s7, s8, s9, s10⟩
       go_simp
       with_reducible rfl
      rotate_left
      ·simp only [Act.put, List.setIfInBounds_toArray, List.set_cons_zero, List.set_cons_succ, i64_w, i32_w]
       rfl
      refine take_ (i := 5) (N := some 36) (v := ?_) (a' := ?_) #[true, true, true, true, true, true, true, false, true, false, false, false, false, false, false, false] rfl rfl (take_ofW HT_.out HW_.out (by kernel_rfl)) (fun _ _ _ h => h) (Or.inl ⟨by rfl, ?_⟩) hHeld ?_ ?_
      rotate_left
      ·rintro w' ⟨s0, s1, s2, s3, s4, s5, s6, s7, s8, s9, s10⟩
       go_simp
       with_reducible rfl
      rotate_left
      ·simp only [Act.put, List.setIfInBounds_toArray, List.set_cons_zero, List.set_cons_succ, i64_w, i32_w]
       rfl
      refine take_ (i := 7) (N := some 38) (v := ?_) (a' := ?_) #[true, true, true, true, true, true, true, true, true, false, false, false, false, false, false, false] rfl rfl (take_ofW HT_.out HW_.out (by kernel_rfl)) (fun _ _ _ h => h) (Or.inl ⟨by rfl, ?_⟩) hHeld ?_ ?_
      rotate_left
      ·rintro w' ⟨s0, s1, s2, s3, s4, s5, s6, s7, s8, s9, s10⟩
       go_simp
       with_reducible rfl
      rotate_left
      ·simp only [Act.put, List.setIfInBounds_toArray, List.set_cons_zero, List.set_cons_succ, i64_w, i32_w]
       rfl
      refine take_ (i := 9) (N := some 40) (v := ?_) (a' := ?_) #[true, true, true, true, true, true, true, true, true, true, false, false, false, false, false, false] rfl rfl (take_ofW HT_.out HW_.out (by kernel_rfl)) (fun _ _ _ h => h) (Or.inl ⟨by rfl, ?_⟩) hHeld ?_ ?_
      rotate_left
      ·rintro w' ⟨s0, s1, s2, s3, s4, s5, s6, s7, s8, s9, s10⟩
       go_simp
       with_reducible rfl
      rotate_left
      ·simp only [Act.put, List.setIfInBounds_toArray, List.set_cons_zero, List.set_cons_succ, i64_w, i32_w]
       rfl
      refine pure_ (i := 10) (N := some 41) (v := ?_) (a' := ?_) #[true, true, true, true, true, true, true, true, true, true, true, false, false, false, false, false] rfl rfl (any_of HT_.out (by kernel_rfl)) (fun _ _ _ h => h) (Or.inl ⟨by rfl, ?_⟩) ?_ ?_
      rotate_left
      ·intro w'
       go_simp
       with_reducible rfl
      rotate_left
      ·simp only [Act.put, List.setIfInBounds_toArray, List.set_cons_zero, List.set_cons_succ, i64_w, i32_w]
       rfl
      refine pure_ (i := 11) (N := some 42) (v := ?_) (a' := ?_) #[true, true, true, true, true, true, true, true, true, true, true, true, false, false, false, false] rfl rfl (any_of HT_.out (by kernel_rfl)) (fun _ _ _ h => h) (Or.inl ⟨by rfl, ?_⟩) ?_ ?_
      rotate_left
      ·intro w'
       go_simp
       with_reducible rfl
      rotate_left
      ·simp only [Act.put, List.setIfInBounds_toArray, List.set_cons_zero, List.set_cons_succ, i64_w, i32_w]
       rfl
      refine one_ (i := 12) (N := some 43) #[true, true, true, true, true, true, true, true, true, true, true, true, true, false, false, false] rfl rfl (one_of HT_.out (by kernel_rfl)) (by decide) (fun K hK => ?_)
      refine value_ (w1 := ?_) (v := ?_) (by rfl) rfl ?_ ?_
      rotate_left 2
      ·go_simp
       constructor
       ·rfl
       ·rfl
      refine hK.out _ _ ⟨(kC (kA BK156.out _) 0).trans rfl, (kC (kA BK156.out _) 1).trans rfl, (kC (kA BK156.out _) 2).trans rfl, (kC (kA BK156.out _) 3).trans rfl, (kC (kA BK156.out _) 4).trans rfl, (kC (kA BK156.out _) 5).trans rfl, (kC (kA BK156.out _) 6).trans rfl, (kC (kA BK158.out _) 0).trans rfl, (kC (kA BK158.out _) 1).trans rfl, (kC (kA BK158.out _) 2).trans rfl, (kC (kA BK158.out _) 3).trans rfl⟩ (fun hHeld => ?_)
      clear hK K
      refine norm_ (a' := ?_) ?_ ?_
      rotate_left
      ·show Act.put _ (some 43) _ = _
       simp only [Act.put, List.setIfInBounds_toArray, List.set_cons_zero, List.set_cons_succ, i64_w, i32_w]
       rfl
      refine one_ (i := 13) (N := some 44) #[true, true, true, true, true, true, true, true, true, true, true, true, true, true, false, false] rfl rfl (one_of HT_.out (by kernel_rfl)) (by decide) (fun K hK => ?_)
      refine Kd.R_append_step k86 (w0 := w) w.heap.size (by rfl) (.tmp 32) (.tmp 43) 79 86 (.agg #[(.int .i64 0), (.int .i64 0), (.int .i64 0), (.float .f64 0)]) 32 rfl Try.underlying79 info86 rfl (by decide) (by omega) u157006 x157006_1 (⟨(rd_T145 l0_6 x4_1).f0, (rd_T145 l0_6 x4_1).f1, (rd_T145 l0_6 x4_1).f2, ((rd_T145 l0_6 x4_1).f3).toNat⟩ : S86) [.int .i64 ((rd_T145 l0_6 x4_1).f0), .int .i64 ((rd_T145 l0_6 x4_1).f1), .int .i64 ((rd_T145 l0_6 x4_1).f2), .float .f64 (((rd_T145 l0_6 x4_1).f3).toNat)] (fun k_ => (w.heap.size ≤ k_)) (fun _ => False) rfl rfl ?aP (fun _ hk => hk.elim) ?aF ?aO ?aB ?aS ?aL ?_
      (case aP => exact k86_mkM _ _ _ (⟨(rd_T145 l0_6 x4_1).f0, (rd_T145 l0_6 x4_1).f1, (rd_T145 l0_6 x4_1).f2, ((rd_T145 l0_6 x4_1).f3).toNat⟩ : S86))
      (case aB => exact (by repeat (first | (with_reducible first | exact HB.out | apply bA | apply bN | apply bD | refine bS ?_ GE154.out | refine bS ?_ GE155.out | refine bS ?_ GE156.out | refine bS ?_ GE158.out) | exact HB.out)))
      (case aF => exact (fun k_ hk => (Nat.le_trans (below_size (by repeat (first | (with_reducible first | exact HB.out | apply bA | apply bN | apply bD | refine bS ?_ GE154.out | refine bS ?_ GE155.out | refine bS ?_ GE156.out | refine bS ?_ GE158.out) | exact HB.out))) hk)))
      (case aO => exact (by (with_reducible repeat (first | apply Kd.RA | apply Kd.RN | apply Kd.RD)); exact HO_157006.out))
      (case aS => exact (below_size (by repeat (first | (with_reducible first | exact HB.out | apply bA | apply bN | apply bD | refine bS ?_ GE154.out | refine bS ?_ GE155.out | refine bS ?_ GE156.out | refine bS ?_ GE158.out) | exact HB.out))))
      (case aL => have := LMc12.out; omega)
      intro v160 w23 ho hb hg hat
      rw [← Ny159.out] at ho
      have n0_ := A0s.mk (Kd.V_afterv (ok := (fun k_ => ((P0_4_ k_ ∨ P0_5_ k_) ∨ w.heap.size ≤ k_) ∧ k_ ≠ gb154 ∧ k_ ≠ gb155 ∧ k_ ≠ gb156 ∧ k_ ≠ gb158)) (by (with_reducible repeat (first | apply Kd.V_alloc | apply Kd.V_drewN | apply Kd.V_drew)); exact Kd.V_mono HO_155004.out (fun _ hk => ⟨⟨hk.1, ⟨hk.2.2.1, ⟨hk.2.2.2.1, ⟨hk.2.2.2.2.1, hk.2.2.2.2.2⟩⟩⟩⟩, hk.2.1⟩)) hg hat)
      have n1_ := A0s.mk (Kd.V_afterv (ok := (fun k_ => ((P0_4_ k_ ∨ P0_5_ k_) ∨ w.heap.size ≤ k_) ∧ k_ ≠ gb154 ∧ k_ ≠ gb155 ∧ k_ ≠ gb156 ∧ k_ ≠ gb158)) (by (with_reducible repeat (first | apply Kd.V_alloc | apply Kd.V_drewN | apply Kd.V_drew)); exact Kd.V_mono HO_155005.out (fun _ hk => ⟨⟨hk.1, ⟨hk.2.2.1, ⟨hk.2.2.2.1, ⟨hk.2.2.2.2.1, hk.2.2.2.2.2⟩⟩⟩⟩, hk.2.1⟩)) hg hat)
      have n2_ := A0s.mk (Kd.V_afterv (ok := (fun k_ => ((P0_4_ k_ ∨ P0_5_ k_) ∨ w.heap.size ≤ k_) ∧ k_ ≠ gb154 ∧ k_ ≠ gb155 ∧ k_ ≠ gb156 ∧ k_ ≠ gb158)) (by (with_reducible repeat (first | apply Kd.V_alloc | apply Kd.V_drewN | apply Kd.V_drew)); exact Kd.V_mono HO_157004.out (fun _ hk => ⟨⟨hk.1, ⟨hk.2.2.1, ⟨hk.2.2.2.1, ⟨hk.2.2.2.2.1, hk.2.2.2.2.2⟩⟩⟩⟩, hk.2.1⟩)) hg hat)
      have n3_ := A0s.mk (Kd.V_afterv (ok := (fun k_ => ((P0_4_ k_ ∨ P0_5_ k_) ∨ w.heap.size ≤ k_) ∧ k_ ≠ gb154 ∧ k_ ≠ gb155 ∧ k_ ≠ gb156 ∧ k_ ≠ gb158)) (by (with_reducible repeat (first | apply Kd.V_alloc | apply Kd.V_drewN | apply Kd.V_drew)); exact Kd.V_mono HO_157005.out (fun _ hk => ⟨⟨hk.1, ⟨hk.2.2.1, ⟨hk.2.2.2.1, ⟨hk.2.2.2.2.1, hk.2.2.2.2.2⟩⟩⟩⟩, hk.2.1⟩)) hg hat)
      have n4_ := A0s.mk (blk_grown (g := gb154) (o := .cells #[.int .i64 a0_0, .int .i64 a0_1, .int .i64 a0_2, .int .i64 a0_3, .slice A0_4 l0_4.length c0_4, .slice A0_5 l0_5.length c0_5, .slice (some ad157) l0_6.length c0_6] 78 (0, 0)) (by (with_reducible repeat (first | apply kN | apply kD | apply kA)); exact BK154.out) hg (Kd.R_ne HO_157006.out BK154.out (by decide)))
      have n5_ := A0s.mk (blk_grown (g := gb155) (o := .cells #[.int .i64 0, .int .i64 0, .int .i64 0, .int .i64 0, .slice none 0 0, .slice none 0 0, .slice none 0 0] 81 (0, 0)) (by (with_reducible repeat (first | apply kN | apply kD | apply kA)); exact BK155.out) hg (Kd.R_ne HO_157006.out BK155.out (by decide)))
      have n6_ := A0s.mk (blk_grown (g := gb156) (o := .cells #[.int .i64 a0_0, .int .i64 a0_1, .int .i64 a0_2, .int .i64 a0_3, .slice A0_4 l0_4.length c0_4, .slice A0_5 l0_5.length c0_5, u157006] 81 (0, 0)) (by (with_reducible repeat (first | apply kN | apply kD | apply kA)); exact BK156.out) hg (Kd.R_ne HO_157006.out BK156.out (by decide)))
      have n7_ := A0s.mk (blk_grown (g := gb158) (o := .cells #[.int .i64 ((rd_T145 l0_6 x4_1).f0), .int .i64 ((rd_T145 l0_6 x4_1).f1), .int .i64 ((rd_T145 l0_6 x4_1).f2), .int .u64 ((rd_T145 l0_6 x4_1).f3)] 145 (0, 0)) (by (with_reducible repeat (first | apply kN | apply kD | apply kA)); exact BK158.out) hg (Kd.R_ne HO_157006.out BK158.out (by decide)))
      have n8_ := A0s.mk (hb)
      have n9_ := A0s.mk (ho)
      clear HO_155004
      clear HO_155005
      clear HO_157004
      clear HO_157005
      clear BK154
      clear BK155
      clear BK156
      clear BK158
      clear HB
      clear HO_157006
      have HO_155004 := n0_
      have HO_155005 := n1_
      have HO_157004 := n2_
      have HO_157005 := n3_
      have BK154 := n4_
      have BK155 := n5_
      have BK156 := n6_
      have BK158 := n7_
      have HB := n8_
      have HO161 := n9_
      clear n0_ n1_ n2_ n3_ n4_ n5_ n6_ n7_ n8_ n9_
      clear ho hb hg hat
      obtain ⟨Ao24, co24, eo24⟩ := Kd.R_slice HO161.out
      (first | subst eo24 | (injection eo24 with f1_ f2_ f3_; have f4_ := f1_.symm; have f5_ := f3_.symm; clear f1_ f2_ f3_; subst f4_; subst f5_))
      refine hK.out _ _ ⟨(kC BK156.out 0).trans rfl, (kC BK156.out 1).trans rfl, (kC BK156.out 2).trans rfl, (kC BK156.out 3).trans rfl, (kC BK156.out 4).trans rfl, (kC BK156.out 5).trans rfl, (kC BK156.out 6).trans rfl, (kC BK158.out 0).trans rfl, (kC BK158.out 1).trans rfl, (kC BK158.out 2).trans rfl, (kC BK158.out 3).trans rfl⟩ (fun hHeld => ?_)
      clear hK K
      refine norm_ (a' := ?_) ?_ ?_
      rotate_left
      ·show Act.put _ (some 44) _ = _
       simp only [Act.put, List.setIfInBounds_toArray, List.set_cons_zero, List.set_cons_succ, i64_w, i32_w]
       rfl
      refine pure_ (i := 14) (N := some 45) (v := ?_) (a' := ?_) #[true, true, true, true, true, true, true, true, true, true, true, true, true, true, true, false] rfl rfl (any_of HT_.out (by kernel_rfl)) (fun _ _ _ h => h) (Or.inl ⟨by rfl, ?_⟩) ?_ ?_
      rotate_left
      ·intro w'
       go_simp
       with_reducible rfl
      rotate_left
      ·simp only [Act.put, List.setIfInBounds_toArray, List.set_cons_zero, List.set_cons_succ, i64_w, i32_w]
       rfl
      refine last_ (i := 15) (N := none) #[true, true, true, true, true, true, true, true, true, true, true, true, true, true, true, true] rfl rfl (one_of HT_.out (by kernel_rfl)) (by decide) (fun K hK => ?_)
      have hs25 : w23.cell? ⟨gb156, 6, none⟩ = some (u157006) := (kC BK156.out 6).trans rfl
      have hfs25 := blk_frozen BK156.out 6
      have hns25_0 := NB154_156.out
      have hns25_1 := NB155_156.out
      have hns25_3 := NB158_156.out
      have hms25_0 := NB156_154.out
      have hms25_1 := NB156_155.out
      have hms25_3 := NB156_158.out
      refine skip_ (w1 := ?_) (by rfl) rfl ?_ ?_
      rotate_left
      ·go_simp
       rfl
      refine hK.out _ _ ?_
      clear hK K
      refine done_ (done_of HT_.out (by kernel_rfl)) ?_
      try go_wp2
      go_roundg k1
      case measure => have := HK1.out; omega
      case rel => exact ⟨(wrap64 (x4_1 + 1)), (y159), (.slice Ao24 y159.length co24), (by first | rfl | (simp; done) | (simp [*]; done)), H', ⟨by have := HK1.out; omega⟩, ⟨by (with_reducible repeat (first | apply Kd.V_alloc | apply Kd.V_drewN | apply Kd.V_drew)); exact Kd.V_mono (Kd.V_far (p := ⟨gb156, 6, none⟩) (Kd.V_mono HO_155004.out (fun k_ hk => (⟨hk, hk.1.2.2.2.1⟩ : _ ∧ k_ ≠ gb156))) (fun _ hk => hk.2) (.slice Ao24 y159.length co24)) (fun _ hk => ⟨hk.1.1.1, ⟨hk.1.2, ⟨hk.1.1.2.1, ⟨hk.1.1.2.2.1, hk.1.1.2.2.2.1⟩⟩⟩⟩)⟩, ⟨by (with_reducible repeat (first | apply Kd.V_alloc | apply Kd.V_drewN | apply Kd.V_drew)); exact Kd.V_mono (Kd.V_far (p := ⟨gb156, 6, none⟩) (Kd.V_mono HO_155005.out (fun k_ hk => (⟨hk, hk.1.2.2.2.1⟩ : _ ∧ k_ ≠ gb156))) (fun _ hk => hk.2) (.slice Ao24 y159.length co24)) (fun _ hk => ⟨hk.1.1.1, ⟨hk.1.2, ⟨hk.1.1.2.1, ⟨hk.1.1.2.2.1, hk.1.1.2.2.2.1⟩⟩⟩⟩)⟩, ⟨by (with_reducible repeat (first | apply Kd.V_alloc | apply Kd.V_drewN | apply Kd.V_drew)); exact Kd.V_mono (Kd.V_far (p := ⟨gb156, 6, none⟩) (Kd.V_mono HO_157004.out (fun k_ hk => (⟨hk, hk.1.2.2.2.1⟩ : _ ∧ k_ ≠ gb156))) (fun _ hk => hk.2) (.slice Ao24 y159.length co24)) (fun _ hk => ⟨hk.1.1.1, ⟨hk.1.2, ⟨hk.1.1.2.1, ⟨hk.1.1.2.2.1, hk.1.1.2.2.2.1⟩⟩⟩⟩)⟩, ⟨by (with_reducible repeat (first | apply Kd.V_alloc | apply Kd.V_drewN | apply Kd.V_drew)); exact Kd.V_mono (Kd.V_far (p := ⟨gb156, 6, none⟩) (Kd.V_mono HO_157005.out (fun k_ hk => (⟨hk, hk.1.2.2.2.1⟩ : _ ∧ k_ ≠ gb156))) (fun _ hk => hk.2) (.slice Ao24 y159.length co24)) (fun _ hk => ⟨hk.1.1.1, ⟨hk.1.2, ⟨hk.1.1.2.1, ⟨hk.1.1.2.2.1, hk.1.1.2.2.2.1⟩⟩⟩⟩)⟩, ⟨by (with_reducible repeat (first | apply Kd.RA | apply Kd.RN | apply Kd.RD)); exact Kd.R_mono (Kd.R_far (p := ⟨gb156, 6, none⟩) (Kd.R_types HO161.out BK156.out (by decide)) (fun _ hk => hk.2) (.slice Ao24 y159.length co24)) (fun _ hk => hk.1)⟩, ⟨by (with_reducible repeat (first | apply kN | apply kD | apply kA)); refine blk_far ?_ NB154_156.out _; (with_reducible repeat (first | apply kN | apply kD | apply kA)); exact BK154.out⟩, ⟨by (with_reducible repeat (first | apply kN | apply kD | apply kA)); refine blk_far ?_ NB155_156.out _; (with_reducible repeat (first | apply kN | apply kD | apply kA)); exact BK155.out⟩, ⟨by (with_reducible repeat (first | apply kN | apply kD | apply kA)); refine blk_put (cs := #[.int .i64 a0_0, .int .i64 a0_1, .int .i64 a0_2, .int .i64 a0_3, .slice A0_4 l0_4.length c0_4, .slice A0_5 l0_5.length c0_5, u157006]) ?_ 6 _ rfl; (with_reducible repeat (first | apply kN | apply kD | apply kA)); exact BK156.out⟩, ⟨by repeat (first | (with_reducible first | exact HB.out | apply bA | apply bN | apply bD | refine bS ?_ GE154.out | refine bS ?_ GE155.out | refine bS ?_ GE156.out | refine bS ?_ GE158.out) | exact HB.out)⟩⟩
     ·rw [if_neg c12] at H
      exact absurd H (by simp)
    ·rw [if_neg c11] at H
     exact absurd H (by simp)
   ·rw [if_neg c10] at H
    have c10b0 : decide (x4_1 < (l0_6.length : Int)) = false := decide_eq_false c10
    clear c10
    simp only [Option.some.injEq, Prod.mk.injEq] at H
    obtain ⟨rfl, rfl, rfl, rfl, rfl, rfl, rfl⟩ := H
    have hnb26 := NB154_155.out
    have hnc26 := NB155_154.out
    have hnb27 := NB154_156.out
    have hnc27 := NB156_154.out
    obtain ⟨hcz28_0, hcz28_1, hcz28_2, hcz28_3, hcz28_4, hcz28_5, hcz28_6, hfz28_0, hfz28_1, hfz28_2, hfz28_3, hfz28_4, hfz28_5, hfz28_6⟩ := blk_all7 BK154.out
    have hnb29 := NB156_155.out
    have hnc29 := NB155_156.out
    obtain ⟨hcz30_0, hcz30_1, hcz30_2, hcz30_3, hcz30_4, hcz30_5, hcz30_6, hfz30_0, hfz30_1, hfz30_2, hfz30_3, hfz30_4, hfz30_5, hfz30_6⟩ := blk_all7 BK156.out
    obtain ⟨hcz31_0, hcz31_1, hcz31_2, hcz31_3, hcz31_4, hcz31_5, hcz31_6, hfz31_0, hfz31_1, hfz31_2, hfz31_3, hfz31_4, hfz31_5, hfz31_6⟩ := blk_all7 BK155.out
    obtain ⟨Ao32, co32, eo32⟩ := Kd.R_slice HO_157006.out
    subst eo32
    go_wp2
    refine bodyPost_ret (results_cell_row rfl _ _ gb155 81 #[.int .i64 a0_0, .int .i64 a0_1, .int .i64 a0_2, .int .i64 a0_3, .slice A0_4 l0_4.length c0_4, .slice A0_5 l0_5.length c0_5, .slice Ao32 x157006_1.length co32] (0, 0) _ rfl (by (with_reducible repeat (first | apply kN | apply kD | apply kA)); refine blk_put (cs := #[.int .i64 a0_0, .int .i64 a0_1, .int .i64 a0_2, .int .i64 a0_3, .slice A0_4 l0_4.length c0_4, .slice A0_5 l0_5.length c0_5, .slice none 0 0]) ?_ 6 _ rfl; (with_reducible repeat (first | apply kN | apply kD | apply kA)); refine blk_put (cs := #[.int .i64 a0_0, .int .i64 a0_1, .int .i64 a0_2, .int .i64 a0_3, .slice A0_4 l0_4.length c0_4, .slice none 0 0, .slice none 0 0]) ?_ 5 _ rfl; (with_reducible repeat (first | apply kN | apply kD | apply kA)); refine blk_put (cs := #[.int .i64 a0_0, .int .i64 a0_1, .int .i64 a0_2, .int .i64 a0_3, .slice none 0 0, .slice none 0 0, .slice none 0 0]) ?_ 4 _ rfl; (with_reducible repeat (first | apply kN | apply kD | apply kA)); refine blk_put (cs := #[.int .i64 a0_0, .int .i64 a0_1, .int .i64 a0_2, .int .i64 0, .slice none 0 0, .slice none 0 0, .slice none 0 0]) ?_ 3 _ rfl; (with_reducible repeat (first | apply kN | apply kD | apply kA)); refine blk_put (cs := #[.int .i64 a0_0, .int .i64 a0_1, .int .i64 0, .int .i64 0, .slice none 0 0, .slice none 0 0, .slice none 0 0]) ?_ 2 _ rfl; (with_reducible repeat (first | apply kN | apply kD | apply kA)); refine blk_put (cs := #[.int .i64 a0_0, .int .i64 0, .int .i64 0, .int .i64 0, .slice none 0 0, .slice none 0 0, .slice none 0 0]) ?_ 1 _ rfl; (with_reducible repeat (first | apply kN | apply kD | apply kA)); refine blk_put (cs := #[.int .i64 0, .int .i64 0, .int .i64 0, .int .i64 0, .slice none 0 0, .slice none 0 0, .slice none 0 0]) ?_ 0 _ rfl; (with_reducible repeat (first | apply kN | apply kD | apply kA)); exact BK155.out) Try.underlying81 rfl (by kernel_rfl)) rfl ?_
    exact ⟨_, _, _, by first | rfl | (simp [errW_none, errW_some] <;> rfl) | (simp [*, errW_none, errW_some] <;> rfl), by (with_reducible repeat (first | apply Kd.V_alloc | apply Kd.V_drewN | apply Kd.V_drew)); exact Kd.V_mono (Kd.V_far (p := ⟨gb155, 6, none⟩) (Kd.V_far (p := ⟨gb155, 5, none⟩) (Kd.V_far (p := ⟨gb155, 4, none⟩) (Kd.V_far (p := ⟨gb155, 3, none⟩) (Kd.V_far (p := ⟨gb155, 2, none⟩) (Kd.V_far (p := ⟨gb155, 1, none⟩) (Kd.V_far (p := ⟨gb155, 0, none⟩) (Kd.V_mono HO_157004.out (fun k_ hk => (⟨hk, hk.2.2.2.1⟩ : _ ∧ k_ ≠ gb155))) (fun _ hk => hk.2) (.int .i64 a0_0)) (fun _ hk => hk.2) (.int .i64 a0_1)) (fun _ hk => hk.2) (.int .i64 a0_2)) (fun _ hk => hk.2) (.int .i64 a0_3)) (fun _ hk => hk.2) (.slice A0_4 l0_4.length c0_4)) (fun _ hk => hk.2) (.slice A0_5 l0_5.length c0_5)) (fun _ hk => hk.2) (.slice Ao32 x157006_1.length co32)) (fun _ hk => ⟨hk.1.1, hk.1.2.1⟩), by (with_reducible repeat (first | apply Kd.V_alloc | apply Kd.V_drewN | apply Kd.V_drew)); exact Kd.V_mono (Kd.V_far (p := ⟨gb155, 6, none⟩) (Kd.V_far (p := ⟨gb155, 5, none⟩) (Kd.V_far (p := ⟨gb155, 4, none⟩) (Kd.V_far (p := ⟨gb155, 3, none⟩) (Kd.V_far (p := ⟨gb155, 2, none⟩) (Kd.V_far (p := ⟨gb155, 1, none⟩) (Kd.V_far (p := ⟨gb155, 0, none⟩) (Kd.V_mono HO_157005.out (fun k_ hk => (⟨hk, hk.2.2.2.1⟩ : _ ∧ k_ ≠ gb155))) (fun _ hk => hk.2) (.int .i64 a0_0)) (fun _ hk => hk.2) (.int .i64 a0_1)) (fun _ hk => hk.2) (.int .i64 a0_2)) (fun _ hk => hk.2) (.int .i64 a0_3)) (fun _ hk => hk.2) (.slice A0_4 l0_4.length c0_4)) (fun _ hk => hk.2) (.slice A0_5 l0_5.length c0_5)) (fun _ hk => hk.2) (.slice Ao32 x157006_1.length co32)) (fun _ hk => ⟨hk.1.1, hk.1.2.1⟩), by (with_reducible repeat (first | apply Kd.RA | apply Kd.RN | apply Kd.RD)); exact Kd.R_mono (Kd.R_far (p := ⟨gb155, 6, none⟩) (Kd.R_far (p := ⟨gb155, 5, none⟩) (Kd.R_far (p := ⟨gb155, 4, none⟩) (Kd.R_far (p := ⟨gb155, 3, none⟩) (Kd.R_far (p := ⟨gb155, 2, none⟩) (Kd.R_far (p := ⟨gb155, 1, none⟩) (Kd.R_far (p := ⟨gb155, 0, none⟩) (Kd.R_types HO_157006.out BK155.out (by decide)) (fun _ hk => hk.2) (.int .i64 a0_0)) (fun _ hk => hk.2) (.int .i64 a0_1)) (fun _ hk => hk.2) (.int .i64 a0_2)) (fun _ hk => hk.2) (.int .i64 a0_3)) (fun _ hk => hk.2) (.slice A0_4 l0_4.length c0_4)) (fun _ hk => hk.2) (.slice A0_5 l0_5.length c0_5)) (fun _ hk => hk.2) (.slice Ao32 x157006_1.length co32)) (fun _ hk => hk.1), by repeat (first | (with_reducible first | exact HB.out | apply bA | apply bN | apply bD | refine bS ?_ GE154.out | refine bS ?_ GE155.out | refine bS ?_ GE156.out) | exact HB.out)⟩

/-! ### stopgatelaw03_To: function 76 -/
def stopgatelaw03_To.l0 : Nat → List (S176) → List (S178) → Int → Option ((List (S178)))
 | 0, _, _, _ => none
 | k + 1, x0, x3, x4 => if x4 < (x0.length : Int) then (if 0 ≤ x4 then (if x3.length < 8796093022208 then (stopgatelaw03_To.l0 k x0 (x3 ++ [(⟨(rd_T176 x0 x4).f0, (rd_T176 x0 x4).f1⟩ : S178)]) (wrap64 (x4 + 1))) else (none)) else (none)) else (some x3)
def stopgatelaw03_To.f (k : Nat) (l0 : List (S176)) : Option ((List (S178))) := stopgatelaw03_To.l0 k l0 ([] : List (S178)) 0
theorem stopgatelaw03_To.mono_l : ∀ k, (∀ y0 y1 y2, LeO (stopgatelaw03_To.l0 k y0 y1 y2) (stopgatelaw03_To.l0 (k + 1) y0 y1 y2))
 | 0 => fun _ _ _ r h => by simp [stopgatelaw03_To.l0] at h
 | k + 1 => by
  have ih0 := stopgatelaw03_To.mono_l k
  ·intro y0 y1 y2
   unfold stopgatelaw03_To.l0
   repeat' first
   | (with_reducible exact ih0 _ _ _)
   | (with_reducible exact LeO.refl _)
   | (with_reducible exact LeO.none _)
   | (with_reducible refine LeO.ite ?_ ?_)
   | (with_reducible refine LeO.bind ?_ (fun _ => ?_))
   | exact ih0 _ _ _
   | exact LeO.none _
   | refine LeO.ite ?_ ?_
   | refine LeO.bind ?_ (fun _ => ?_)
theorem stopgatelaw03_To.mono : ∀ a0 k, LeO (stopgatelaw03_To.f k a0) (stopgatelaw03_To.f (k + 1) a0) := by
 intro a0 k
 have ih0 := stopgatelaw03_To.mono_l k
 unfold stopgatelaw03_To.f
 repeat' first
   | (with_reducible exact ih0 _ _ _)
   | (with_reducible exact LeO.refl _)
   | (with_reducible exact LeO.none _)
   | (with_reducible refine LeO.ite ?_ ?_)
   | (with_reducible refine LeO.bind ?_ (fun _ => ?_))
   | exact ih0 _ _ _
   | exact LeO.none _
   | refine LeO.ite ?_ ?_
   | refine LeO.bind ?_ (fun _ => ?_)
def stopgatelaw03_To.T5 : Bool × List (List Nat × List Nat) := (true, [([], []), ([], []), ([], []), ([1, 2], [1, 2]), ([3], [3]), ([4], [4]), ([], []), ([], []), ([6, 7], [6, 7]), ([8], [8]), ([9], [9]), ([5, 10], [5, 10]), ([11], [11]), ([0, 12], [0, 12]), ([13, 13, 0, 1, 2, 3, 4, 5, 6, 7, 8, 9, 10, 11, 12, 13], [0, 13])])
def stopgatelaw03_To.B5 : List Nat := [0, 0, 0, 6, 14, 30, 0, 0, 192, 448, 960, 2046, 4094, 8191, 16383]
theorem stopgatelaw03_To.tab5 : rtab .any (opsOf Try.f76 5) = stopgatelaw03_To.T5 := by kernel_rfl
theorem stopgatelaw03_To.bits5 : waitsOk stopgatelaw03_To.T5.2 stopgatelaw03_To.B5 = true := by kernel_rfl
set_option maxHeartbeats 8000000 in
set_option maxRecDepth 100000 in
theorem stopgatelaw03_To.calls (k : Nat) (A0 : Option Addr) (c0 : Nat) (l0 : List (S176)) (r : List (S178)) (w : World) (hr0 : Kd.C k176 w A0 l0.length l0) (hc0 : l0.length ≤ c0) (h : stopgatelaw03_To.f k l0 = some r) :
  Calls Try.prog 76 #[.slice A0 l0.length c0] w fun e w' => ∃ v0_ : Value, e = .returned (v0_) ∧ Kd.R k178 178 w' w.heap.size (fun _ => True) v0_ r ∧ Below w.heap.size w w' := by
 have hu178 := Try.underlying178
 have HR0 := A0s.mk hr0
 have HC0 := A0s.mk hc0
 clear hr0 hc0
 have HB := A0s.mk (Below.refl w.heap.size w)
 have H : (stopgatelaw03_To.l0 k l0 ([] : List (S178)) 0) = some r := h
 clear h
 have H' := A0s.mk H
 clear H
 go_enter Try.func76, Try.ntmps76
 go_wp2
 go_loopg [3, 4] k (fun kq v3 v4 w' => ∃ (x3_1 : List (S178)) (x4_1 : Int), v4 = .int .i64 x4_1 ∧ A0s (stopgatelaw03_To.l0 kq l0 x3_1 x4_1 = some r) ∧ A0s (kq ≤ k) ∧ A0s (Kd.R k178 178 w' w.heap.size (fun _ => True) v3 x3_1) ∧ A0s (Below w.heap.size w w'))
 case atStart => exact ⟨(([] : List (S178))), (0), (by first | rfl | (simp; done) | (simp [*]; done)), H', ⟨Nat.le_refl _⟩, ⟨by first | exact Kd.R_nil _ _ _ _ _ | exact Kd.N_nil _ _ _ _ _ | exact Kd.V_nil _ _ _ _ _ | exact Kd.Q_nil _ _ _ _ _ | exact Kd.S_nil _ _ _ _ _⟩, ⟨by repeat (first | (with_reducible first | exact HB.out | apply bA | apply bN | apply bD) | exact HB.out)⟩⟩
 case round =>
  clear H'
  obtain ⟨x3_1, x4_1, rfl, HA, HK1, HO_3, HB⟩ := hrel
  cases gk with
  | zero => exact absurd HA.out (by simp [stopgatelaw03_To.l0])
  | succ k1 =>
   have H := HA.out
   clear HA
   simp only [stopgatelaw03_To.l0] at H
   by_cases c2 : x4_1 < (l0.length : Int)
   ·rw [if_pos c2] at H
    have c2b0 : decide (x4_1 < (l0.length : Int)) = true := decide_eq_true c2
    clear c2
    by_cases c3 : 0 ≤ x4_1
    ·rw [if_pos c3] at H
     have c3b0 : decide (0 ≤ x4_1) = true := decide_eq_true c3
     clear c3
     by_cases c4 : x3_1.length < 8796093022208
     ·rw [if_pos c4] at H
      have LMc4 := A0s.mk c4
      clear c4
      obtain ⟨y164, hy164⟩ : ∃ y_ : List (S178), y_ = (x3_1 ++ [(⟨(rd_T176 l0 x4_1).f0, (rd_T176 l0 x4_1).f1⟩ : S178)]) := ⟨_, rfl⟩
      replace H : (stopgatelaw03_To.l0 k1 l0 y164 (wrap64 (x4_1 + 1))) = some r := by first | (rw [hy164]; with_reducible exact H) | (have H2_ := (Option.bind_some _ _).symm.trans H; rw [hy164]; with_reducible exact H2_) | (have H2_ := (Option.bind_some _ _).symm.trans H; with_reducible exact H2_) | with_reducible exact H | (rw [hy164]; exact H) | exact H
      have Ny164 := A0s.mk hy164
      clear hy164
      have H' := A0s.mk H
      clear H
      try go_wp2
      have n0_ := A0s.mk (Kd.RD HO_3.out)
      have n1_ := A0s.mk (bD HB.out)
      clear HO_3
      clear HB
      have HO_3 := n0_
      have HB := n1_
      clear n0_ n1_
      have p162 : 0 ≤ (x4_1 : Int) := of_decide_eq_true (by first | (with_reducible assumption) | assumption)
      have q162 : x4_1 < (l0.length : Int) := of_decide_eq_true (by first | (with_reducible assumption) | assumption)
      obtain ⟨ad162, e162, hx162_0, hx162_1⟩ := at_T176 HR0.out x4_1 p162 q162
      have hw162_1 := hx162_1
      have hw162_0 := hx162_0
      cases e162
      replace hx162_0 := (HB.out.cell (World.block_lt_of_cell? w _ hx162_0)).trans hx162_0
      replace hx162_1 := (HB.out.cell (World.block_lt_of_cell? w _ hx162_1)).trans hx162_1
      replace p162 := eq_true p162
      replace q162 := eq_true q162
      have p163 : 0 ≤ (x4_1 : Int) := of_decide_eq_true (by first | (with_reducible assumption) | assumption)
      have q163 : x4_1 < (l0.length : Int) := of_decide_eq_true (by first | (with_reducible assumption) | assumption)
      obtain ⟨ad163, e163, hx163_0, hx163_1⟩ := at_T176 HR0.out x4_1 p163 q163
      have hw163_1 := hx163_1
      have hw163_0 := hx163_0
      obtain rfl : ad162 = ad163 := (by injection e163)
      replace hx163_0 := (HB.out.cell (World.block_lt_of_cell? w _ hx163_0)).trans hx163_0
      replace hx163_1 := (HB.out.cell (World.block_lt_of_cell? w _ hx163_1)).trans hx163_1
      replace p163 := eq_true p163
      replace q163 := eq_true q163
      refine start_ (n := 15) (S := fun w' => w'.cell? (ad162.add ((x4_1).toNat * 2)) = some (.int .i64 ((rd_T176 l0 x4_1).f0)) ∧ w'.cell? ⟨(ad162.add ((x4_1).toNat * 2)).block, (ad162.add ((x4_1).toNat * 2)).off + 1, none⟩ = some (.int .i64 ((rd_T176 l0 x4_1).f1)) ∧ w'.cell? (ad162.add ((x4_1).toNat * 2)) = some (.int .i64 ((rd_T176 l0 x4_1).f0)) ∧ w'.cell? ⟨(ad162.add ((x4_1).toNat * 2)).block, (ad162.add ((x4_1).toNat * 2)).off + 1, none⟩ = some (.int .i64 ((rd_T176 l0 x4_1).f1))) (ds := []) #[false, false, false, false, false, false, false, false, false, false, false, false, false, false, false] (by kernel_rfl) rfl rfl ⟨((HB.out.cell (World.block_lt_of_cell? w _ hw162_0)).trans hw162_0), ((HB.out.cell (World.block_lt_of_cell? w _ hw162_1)).trans hw162_1), ((HB.out.cell (World.block_lt_of_cell? w _ hw163_0)).trans hw163_0), ((HB.out.cell (World.block_lt_of_cell? w _ hw163_1)).trans hw163_1)⟩ (fun hHeld => ?_); refine with_tabW stopgatelaw03_To.tab5 stopgatelaw03_To.bits5 (fun HT_ HW_ => ?_)
      generalize wr.drew = w5 at HO_3 HB hx162_0 hx162_1 hx163_0 hx163_1 hHeld ⊢
      refine pure_ (i := 0) (N := some 11) (v := ?_) (a' := ?_) #[true, false, false, false, false, false, false, false, false, false, false, false, false, false, false] rfl rfl (any_of HT_.out (by kernel_rfl)) (fun _ _ _ h => h) (Or.inl ⟨by rfl, ?_⟩) ?_ ?_
      rotate_left
      ·intro w'
       go_simp
       with_reducible rfl
      rotate_left
      ·simp only [Act.put, List.setIfInBounds_toArray, List.set_cons_zero, List.set_cons_succ, i64_w, i32_w]
       rfl
      refine pure_ (i := 1) (N := some 12) (v := ?_) (a' := ?_) #[true, true, false, false, false, false, false, false, false, false, false, false, false, false, false] rfl rfl (any_of HT_.out (by kernel_rfl)) (fun _ _ _ h => h) (Or.inl ⟨by rfl, ?_⟩) ?_ ?_
      rotate_left
      ·intro w'
       go_simp
       with_reducible rfl
      rotate_left
      ·simp only [Act.put, List.setIfInBounds_toArray, List.set_cons_zero, List.set_cons_succ, i64_w, i32_w]
       rfl
      refine pure_ (i := 2) (N := some 13) (v := ?_) (a' := ?_) #[true, true, true, false, false, false, false, false, false, false, false, false, false, false, false] rfl rfl (any_of HT_.out (by kernel_rfl)) (fun _ _ _ h => h) (Or.inl ⟨by rfl, ?_⟩) ?_ ?_
      rotate_left
      ·intro w'
       go_simp
       with_reducible rfl
      rotate_left
      ·simp only [Act.put, List.setIfInBounds_toArray, List.set_cons_zero, List.set_cons_succ, i64_w, i32_w]
       rfl
      refine pure_ (i := 3) (N := some 14) (v := ?_) (a' := ?_) #[true, true, true, true, false, false, false, false, false, false, false, false, false, false, false] rfl rfl (any_of HT_.out (by kernel_rfl)) (fun _ _ _ h => h) (Or.inl ⟨by rfl, ?_⟩) ?_ ?_
      rotate_left
      ·intro w'
       go_simp
       with_reducible rfl
      rotate_left
      ·simp only [Act.put, List.setIfInBounds_toArray, List.set_cons_zero, List.set_cons_succ, i64_w, i32_w]
       rfl
      refine pure_ (i := 4) (N := some 15) (v := ?_) (a' := ?_) #[true, true, true, true, true, false, false, false, false, false, false, false, false, false, false] rfl rfl (any_of HT_.out (by kernel_rfl)) (fun _ _ _ h => h) (Or.inl ⟨by rfl, ?_⟩) ?_ ?_
      rotate_left
      ·intro w'
       go_simp
       with_reducible rfl
      rotate_left
      ·simp only [Act.put, List.setIfInBounds_toArray, List.set_cons_zero, List.set_cons_succ, i64_w, i32_w]
       rfl
      refine pure_ (i := 6) (N := some 17) (v := ?_) (a' := ?_) #[true, true, true, true, true, false, true, false, false, false, false, false, false, false, false] rfl rfl (any_of HT_.out (by kernel_rfl)) (fun _ _ _ h => h) (Or.inl ⟨by rfl, ?_⟩) ?_ ?_
      rotate_left
      ·intro w'
       go_simp
       with_reducible rfl
      rotate_left
      ·simp only [Act.put, List.setIfInBounds_toArray, List.set_cons_zero, List.set_cons_succ, i64_w, i32_w]
       rfl
      refine pure_ (i := 7) (N := some 18) (v := ?_) (a' := ?_) #[true, true, true, true, true, false, true, true, false, false, false, false, false, false, false] rfl rfl (any_of HT_.out (by kernel_rfl)) (fun _ _ _ h => h) (Or.inl ⟨by rfl, ?_⟩) ?_ ?_
      rotate_left
      ·intro w'
       go_simp
       with_reducible rfl
      rotate_left
      ·simp only [Act.put, List.setIfInBounds_toArray, List.set_cons_zero, List.set_cons_succ, i64_w, i32_w]
       rfl
      refine pure_ (i := 8) (N := some 19) (v := ?_) (a' := ?_) #[true, true, true, true, true, false, true, true, true, false, false, false, false, false, false] rfl rfl (any_of HT_.out (by kernel_rfl)) (fun _ _ _ h => h) (Or.inl ⟨by rfl, ?_⟩) ?_ ?_
      rotate_left
      ·intro w'
       go_simp
       with_reducible rfl
      rotate_left
      ·simp only [Act.put, List.setIfInBounds_toArray, List.set_cons_zero, List.set_cons_succ, i64_w, i32_w]
       rfl
      refine pure_ (i := 9) (N := some 20) (v := ?_) (a' := ?_) #[true, true, true, true, true, false, true, true, true, true, false, false, false, false, false] rfl rfl (any_of HT_.out (by kernel_rfl)) (fun _ _ _ h => h) (Or.inl ⟨by rfl, ?_⟩) ?_ ?_
      rotate_left
      ·intro w'
       go_simp
       with_reducible rfl
      rotate_left
      ·simp only [Act.put, List.setIfInBounds_toArray, List.set_cons_zero, List.set_cons_succ, i64_w, i32_w]
       rfl
      refine take_ (i := 5) (N := some 16) (v := ?_) (a' := ?_) #[true, true, true, true, true, true, true, true, true, true, false, false, false, false, false] rfl rfl (take_ofW HT_.out HW_.out (by kernel_rfl)) (fun _ _ _ h => h) (Or.inl ⟨by rfl, ?_⟩) hHeld ?_ ?_
      rotate_left
      ·rintro w' ⟨s0, s1, s2, s3⟩
       go_simp
       with_reducible rfl
      rotate_left
      ·simp only [Act.put, List.setIfInBounds_toArray, List.set_cons_zero, List.set_cons_succ, i64_w, i32_w]
       rfl
      refine take_ (i := 10) (N := some 21) (v := ?_) (a' := ?_) #[true, true, true, true, true, true, true, true, true, true, true, false, false, false, false] rfl rfl (take_ofW HT_.out HW_.out (by kernel_rfl)) (fun _ _ _ h => h) (Or.inl ⟨by rfl, ?_⟩) hHeld ?_ ?_
      rotate_left
      ·rintro w' ⟨s0, s1, s2, s3⟩
       go_simp
       with_reducible rfl
      rotate_left
      ·simp only [Act.put, List.setIfInBounds_toArray, List.set_cons_zero, List.set_cons_succ, i64_w, i32_w]
       rfl
      refine pure_ (i := 11) (N := some 22) (v := ?_) (a' := ?_) #[true, true, true, true, true, true, true, true, true, true, true, true, false, false, false] rfl rfl (any_of HT_.out (by kernel_rfl)) (fun _ _ _ h => h) (Or.inl ⟨by rfl, ?_⟩) ?_ ?_
      rotate_left
      ·intro w'
       go_simp
       with_reducible rfl
      rotate_left
      ·simp only [Act.put, List.setIfInBounds_toArray, List.set_cons_zero, List.set_cons_succ, i64_w, i32_w]
       rfl
      refine one_ (i := 12) (N := some 23) #[true, true, true, true, true, true, true, true, true, true, true, true, true, false, false] rfl rfl (one_of HT_.out (by kernel_rfl)) (by decide) (fun K hK => ?_)
      refine value_ (w1 := ?_) (v := ?_) (by rfl) rfl ?_ ?_
      rotate_left 2
      ·go_simp
       constructor
       ·rfl
       ·rfl
      refine hK.out _ _ ⟨(World.cell?_alloc_lt _ _ _ (World.block_lt_of_cell? _ _ (((HB.out.cell (World.block_lt_of_cell? w _ hw162_0)).trans hw162_0)))).trans (((HB.out.cell (World.block_lt_of_cell? w _ hw162_0)).trans hw162_0)), (World.cell?_alloc_lt _ _ _ (World.block_lt_of_cell? _ _ (((HB.out.cell (World.block_lt_of_cell? w _ hw162_1)).trans hw162_1)))).trans (((HB.out.cell (World.block_lt_of_cell? w _ hw162_1)).trans hw162_1)), (World.cell?_alloc_lt _ _ _ (World.block_lt_of_cell? _ _ (((HB.out.cell (World.block_lt_of_cell? w _ hw163_0)).trans hw163_0)))).trans (((HB.out.cell (World.block_lt_of_cell? w _ hw163_0)).trans hw163_0)), (World.cell?_alloc_lt _ _ _ (World.block_lt_of_cell? _ _ (((HB.out.cell (World.block_lt_of_cell? w _ hw163_1)).trans hw163_1)))).trans (((HB.out.cell (World.block_lt_of_cell? w _ hw163_1)).trans hw163_1))⟩ (fun hHeld => ?_)
      clear hK K
      refine norm_ (a' := ?_) ?_ ?_
      rotate_left
      ·show Act.put _ (some 23) _ = _
       simp only [Act.put, List.setIfInBounds_toArray, List.set_cons_zero, List.set_cons_succ, i64_w, i32_w]
       rfl
      refine one_ (i := 13) (N := some 24) #[true, true, true, true, true, true, true, true, true, true, true, true, true, true, false] rfl rfl (one_of HT_.out (by kernel_rfl)) (by decide) (fun K hK => ?_)
      refine Kd.R_append_step k178 (w0 := w) w.heap.size (by rfl) (.tmp 11) (.tmp 23) 87 178 (.agg #[(.int .i64 0), (.int .i64 0)]) 16 rfl Try.underlying87 info178 rfl (by decide) (by omega) u3 x3_1 (⟨(rd_T176 l0 x4_1).f0, (rd_T176 l0 x4_1).f1⟩ : S178) [.int .i64 ((rd_T176 l0 x4_1).f0), .int .i64 ((rd_T176 l0 x4_1).f1)] (fun _ => True) (fun _ => False) rfl rfl ?aP (fun _ hk => hk.elim) ?aF ?aO ?aB ?aS ?aL ?_
      (case aP => exact k178_mkM _ _ _ (⟨(rd_T176 l0 x4_1).f0, (rd_T176 l0 x4_1).f1⟩ : S178))
      (case aB => exact (by repeat (first | (with_reducible first | exact HB.out | apply bA | apply bN | apply bD) | exact HB.out)))
      (case aF => exact (fun _ _ => trivial))
      (case aO => exact (by (with_reducible repeat (first | apply Kd.RA | apply Kd.RN | apply Kd.RD)); exact HO_3.out))
      (case aS => exact (below_size (by repeat (first | (with_reducible first | exact HB.out | apply bA | apply bN | apply bD) | exact HB.out))))
      (case aL => have := LMc4.out; omega)
      intro v165 w6 ho hb hg hat
      rw [← Ny164.out] at ho
      have n0_ := A0s.mk (hb)
      have n1_ := A0s.mk (ho)
      clear HB
      clear HO_3
      have HB := n0_
      have HO166 := n1_
      clear n0_ n1_
      clear ho hb hg hat
      refine hK.out _ _ ⟨((HB.out.cell (World.block_lt_of_cell? w _ hw162_0)).trans hw162_0), ((HB.out.cell (World.block_lt_of_cell? w _ hw162_1)).trans hw162_1), ((HB.out.cell (World.block_lt_of_cell? w _ hw163_0)).trans hw163_0), ((HB.out.cell (World.block_lt_of_cell? w _ hw163_1)).trans hw163_1)⟩ (fun hHeld => ?_)
      clear hK K
      refine norm_ (a' := ?_) ?_ ?_
      rotate_left
      ·show Act.put _ (some 24) _ = _
       simp only [Act.put, List.setIfInBounds_toArray, List.set_cons_zero, List.set_cons_succ, i64_w, i32_w]
       rfl
      refine pure_ (i := 14) (N := some 3) (v := ?_) (a' := ?_) #[true, true, true, true, true, true, true, true, true, true, true, true, true, true, true] rfl rfl (any_of HT_.out (by kernel_rfl)) (fun _ _ _ h => h) (Or.inl ⟨by rfl, ?_⟩) ?_ ?_
      rotate_left
      ·intro w'
       go_simp
       with_reducible rfl
      rotate_left
      ·simp only [Act.put, List.setIfInBounds_toArray, List.set_cons_zero, List.set_cons_succ, i64_w, i32_w]
       rfl
      refine done_ (done_of HT_.out (by kernel_rfl)) ?_
      try go_wp2
      go_roundg k1
      case measure => have := HK1.out; omega
      case rel => exact ⟨(y164), (wrap64 (x4_1 + 1)), (by first | rfl | (simp; done) | (simp [*]; done)), H', ⟨by have := HK1.out; omega⟩, ⟨by (with_reducible repeat (first | apply Kd.RA | apply Kd.RN | apply Kd.RD)); exact HO166.out⟩, ⟨by repeat (first | (with_reducible first | exact HB.out | apply bA | apply bN | apply bD) | exact HB.out)⟩⟩
     ·rw [if_neg c4] at H
      exact absurd H (by simp)
    ·rw [if_neg c3] at H
     exact absurd H (by simp)
   ·rw [if_neg c2] at H
    have c2b0 : decide (x4_1 < (l0.length : Int)) = false := decide_eq_false c2
    clear c2
    obtain rfl := Option.some.inj H
    go_wp2
    go_ret
    exact ⟨_, by first | rfl | (simp [errW_none, errW_some] <;> rfl) | (simp [*, errW_none, errW_some] <;> rfl), by (with_reducible repeat (first | apply Kd.RA | apply Kd.RN | apply Kd.RD)); exact HO_3.out, by repeat (first | (with_reducible first | exact HB.out | apply bA | apply bN | apply bD) | exact HB.out)⟩

end Go.Proofs.Ytgikjgekdeaneaa.QRulesLooks
