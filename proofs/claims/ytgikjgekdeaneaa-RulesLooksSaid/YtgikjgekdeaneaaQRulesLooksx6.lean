/- Printed by wip/gen/myprint.py, a program of this session, for this claim: functions of the program as Lean functions, each with a proof that the Go code comes to its answers. -/
import Derived.Test.YtgikjgekdeaneaaQRulesLooksx0
import Derived.Test.YtgikjgekdeaneaaQRulesLooksx5
namespace Go.Proofs.Ytgikjgekdeaneaa.QRulesLooks
open Go.RowKit Go.Proofs.YtgikjgekdeaneaaW.PrintWords Go.Proofs.YtgikjgekdeaneaaW.PrintLast Go.Proofs.YtgikjgekdeaneaaW.PrintMore
attribute [local go_sem] max2_int min2_int max_two min_two max_three min_three max_four min_four   -- for this text's walks alone
set_option linter.unusedVariables false
set_option linter.unusedSimpArgs false

attribute [local go_sem] run_store_flt
/-! ### tree_Check: function 86 -/
mutual
def tree_Check.l0 : Nat → List (S178) → List (S178) → Int → Int → Option (Int × Int)
 | 0, _, _, _, _ => none
 | k + 1, x0, x17, x18, x19 => if x19 < x18 then (if 0 ≤ x19 then (if x19 < (x17.length : Int) then ((tree_Node_wrong.f k ((rd_T178 x17 x19).f0) ((rd_T178 x17 x19).f1) (x0.length : Int)).bind fun t206 => (if t206 = 0 then (tree_Check.l0 k x0 x17 x18 (wrap64 (x19 + 1))) else (some (t206, x19)))) else (none)) else (none)) else (tree_Check.l1 k x0 (x0.length : Int) 0)
def tree_Check.l1 : Nat → List (S178) → Int → Int → Option (Int × Int)
 | 0, _, _, _ => none
 | k + 1, x0, x34, x35 => if x35 < x34 then (tree_Check.l2 k x0 x35 x35 x34 x35 0) else (some (0, (-1)))
def tree_Check.l2 : Nat → List (S178) → Int → Int → Int → Int → Int → Option (Int × Int)
 | 0, _, _, _, _, _, _ => none
 | k + 1, x0, x7, x8, x34, x35, x39 => if x39 < 3 then (if 0 ≤ x8 then (if x8 < (x0.length : Int) then (if ((rd_T178 x0 x8).f0) = (-1) then (tree_Check.l1 k x0 x34 (wrap64 (x35 + 1))) else (tree_Check.l2 k x0 x7 ((rd_T178 x0 x8).f0) x34 x35 (wrap64 (x39 + 1)))) else (none)) else (none)) else (some (16, x7))
end
def tree_Check.f (k : Nat) (l0 : List (S178)) : Option (Int × Int) := if (l0.length : Int) > 32 then (some (11, 0)) else (if (l0.length : Int) = 0 then (some (1, 0)) else (tree_Check.l0 k l0 l0 (l0.length : Int) 0))
theorem tree_Check.mono_l : ∀ k, (∀ y0 y1 y2 y3, LeO (tree_Check.l0 k y0 y1 y2 y3) (tree_Check.l0 (k + 1) y0 y1 y2 y3)) ∧ (∀ y0 y1 y2, LeO (tree_Check.l1 k y0 y1 y2) (tree_Check.l1 (k + 1) y0 y1 y2)) ∧ (∀ y0 y1 y2 y3 y4 y5, LeO (tree_Check.l2 k y0 y1 y2 y3 y4 y5) (tree_Check.l2 (k + 1) y0 y1 y2 y3 y4 y5))
 | 0 => ⟨fun _ _ _ _ r h => by simp [tree_Check.l0] at h, fun _ _ _ r h => by simp [tree_Check.l1] at h, fun _ _ _ _ _ _ r h => by simp [tree_Check.l2] at h⟩
 | k + 1 => by
  obtain ⟨ih0, ih1, ih2⟩ := tree_Check.mono_l k
  refine ⟨?_, ?_, ?_⟩
  ·intro y0 y1 y2 y3
   unfold tree_Check.l0
   repeat' first
   | (with_reducible exact ih0 _ _ _ _)
   | (with_reducible exact ih1 _ _ _)
   | (with_reducible exact ih2 _ _ _ _ _ _)
   | (with_reducible exact tree_Node_wrong.mono _ _ _ _)
   | (with_reducible exact LeO.refl _)
   | (with_reducible exact LeO.none _)
   | (with_reducible refine LeO.ite ?_ ?_)
   | (with_reducible refine LeO.bind ?_ (fun _ => ?_))
   | exact ih0 _ _ _ _
   | exact ih1 _ _ _
   | exact ih2 _ _ _ _ _ _
   | exact tree_Node_wrong.mono _ _ _ _
   | exact LeO.none _
   | refine LeO.ite ?_ ?_
   | refine LeO.bind ?_ (fun _ => ?_)
  ·intro y0 y1 y2
   unfold tree_Check.l1
   repeat' first
   | (with_reducible exact ih0 _ _ _ _)
   | (with_reducible exact ih1 _ _ _)
   | (with_reducible exact ih2 _ _ _ _ _ _)
   | (with_reducible exact tree_Node_wrong.mono _ _ _ _)
   | (with_reducible exact LeO.refl _)
   | (with_reducible exact LeO.none _)
   | (with_reducible refine LeO.ite ?_ ?_)
   | (with_reducible refine LeO.bind ?_ (fun _ => ?_))
   | exact ih0 _ _ _ _
   | exact ih1 _ _ _
   | exact ih2 _ _ _ _ _ _
   | exact tree_Node_wrong.mono _ _ _ _
   | exact LeO.none _
   | refine LeO.ite ?_ ?_
   | refine LeO.bind ?_ (fun _ => ?_)
  ·intro y0 y1 y2 y3 y4 y5
   unfold tree_Check.l2
   repeat' first
   | (with_reducible exact ih0 _ _ _ _)
   | (with_reducible exact ih1 _ _ _)
   | (with_reducible exact ih2 _ _ _ _ _ _)
   | (with_reducible exact tree_Node_wrong.mono _ _ _ _)
   | (with_reducible exact LeO.refl _)
   | (with_reducible exact LeO.none _)
   | (with_reducible refine LeO.ite ?_ ?_)
   | (with_reducible refine LeO.bind ?_ (fun _ => ?_))
   | exact ih0 _ _ _ _
   | exact ih1 _ _ _
   | exact ih2 _ _ _ _ _ _
   | exact tree_Node_wrong.mono _ _ _ _
   | exact LeO.none _
   | refine LeO.ite ?_ ?_
   | refine LeO.bind ?_ (fun _ => ?_)
theorem tree_Check.mono : ∀ a0 k, LeO (tree_Check.f k a0) (tree_Check.f (k + 1) a0) := by
 intro a0 k
 obtain ⟨ih0, ih1, ih2⟩ := tree_Check.mono_l k
 unfold tree_Check.f
 repeat' first
   | (with_reducible exact ih0 _ _ _ _)
   | (with_reducible exact ih1 _ _ _)
   | (with_reducible exact ih2 _ _ _ _ _ _)
   | (with_reducible exact tree_Node_wrong.mono _ _ _ _)
   | (with_reducible exact LeO.refl _)
   | (with_reducible exact LeO.none _)
   | (with_reducible refine LeO.ite ?_ ?_)
   | (with_reducible refine LeO.bind ?_ (fun _ => ?_))
   | exact ih0 _ _ _ _
   | exact ih1 _ _ _
   | exact ih2 _ _ _ _ _ _
   | exact tree_Node_wrong.mono _ _ _ _
   | exact LeO.none _
   | refine LeO.ite ?_ ?_
   | refine LeO.bind ?_ (fun _ => ?_)
set_option maxHeartbeats 8000000 in
set_option maxRecDepth 100000 in
theorem tree_Check.calls (k : Nat) (A0 : Option Addr) (c0 : Nat) (l0 : List (S178)) (r1 : Int) (r2 : Int) (w : World) (hr0 : Kd.C k178 w A0 l0.length l0) (hc0 : l0.length ≤ c0) (h : tree_Check.f k l0 = some (r1, r2)) :
  Calls Try.prog 86 #[.slice A0 l0.length c0] w fun e w' => e = .returned (.tuple #[.int .i64 r1, .int .i64 r2]) ∧ Below w.heap.size w w' := by
 have hu178 := Try.underlying178
 have HR0 := A0s.mk hr0
 have HC0 := A0s.mk hc0
 clear hr0 hc0
 have HB := A0s.mk (Below.refl w.heap.size w)
 have H : (if (l0.length : Int) > 32 then (some (11, 0)) else (if (l0.length : Int) = 0 then (some (1, 0)) else (tree_Check.l0 k l0 l0 (l0.length : Int) 0))) = some (r1, r2) := h
 clear h
 by_cases c2 : (l0.length : Int) > 32
 ·rw [if_pos c2] at H
  have c2b0 : decide (32 < (l0.length : Int)) = true := decide_eq_true c2
  have c2b1 : decide (32 < l0.length) = true := decide_eq_true (by omega)
  clear c2
  simp only [Option.some.injEq, Prod.mk.injEq] at H
  obtain ⟨rfl, rfl⟩ := H
  go_enter Try.func86, Try.ntmps86
  go_wp2; (try (go_step3; go_wp2)); (try (go_step3; go_wp2))
  (try rw [Exit.noGoto_ret])
  go_ret2
  exact ⟨by first | rfl | (simp [errW_none, errW_some] <;> rfl) | (simp [*, errW_none, errW_some] <;> rfl), by repeat (first | (with_reducible first | exact HB.out | apply bA | apply bN | apply bD) | exact HB.out)⟩
 ·rw [if_neg c2] at H
  have c2b0 : decide (32 < (l0.length : Int)) = false := decide_eq_false c2
  have c2b1 : decide (32 < l0.length) = false := decide_eq_false (by omega)
  clear c2
  by_cases c3 : (l0.length : Int) = 0
  ·rw [if_pos c3] at H
   have c3b0 : ((l0.length : Int) == 0) = true := beq_iff_eq.mpr c3
   have c3b1 : ((l0.length : Int) != 0) = false := bne_eq_false_iff_eq.mpr c3
   clear c3
   simp only [Option.some.injEq, Prod.mk.injEq] at H
   obtain ⟨rfl, rfl⟩ := H
   go_enter Try.func86, Try.ntmps86
   go_wp2; (try (go_step3; go_wp2)); (try (go_step3; go_wp2))
   (try rw [Exit.noGoto_ret])
   go_ret2
   exact ⟨by first | rfl | (simp [errW_none, errW_some] <;> rfl) | (simp [*, errW_none, errW_some] <;> rfl), by repeat (first | (with_reducible first | exact HB.out | apply bA | apply bN | apply bD) | exact HB.out)⟩
  ·rw [if_neg c3] at H
   have c3b0 : ((l0.length : Int) == 0) = false := beq_eq_false_iff_ne.mpr c3
   have c3b1 : ((l0.length : Int) != 0) = true := bne_iff_ne.mpr c3
   have c3b2 : ¬ (l0 = []) := fun h_ => c3 (by rw [h_]; rfl)
   have H' := A0s.mk H
   clear H
   go_enter Try.func86, Try.ntmps86
   go_wp2; (try (go_step3; go_wp2)); (try (go_step3; go_wp2))
   go_loopg [19] k (fun kq v19 w' => ∃ (x19_1 : Int), v19 = .int .i64 x19_1 ∧ A0s (tree_Check.l0 kq l0 l0 (l0.length : Int) x19_1 = some (r1, r2)) ∧ A0s (kq ≤ k) ∧ A0s (Below w.heap.size w w'))
   case atStart => exact ⟨(0), (by first | rfl | (simp; done) | (simp [*]; done)), H', ⟨Nat.le_refl _⟩, ⟨by repeat (first | (with_reducible first | exact HB.out | apply bA | apply bN | apply bD) | exact HB.out)⟩⟩
   case round =>
    clear H'
    try clear c2
    try clear c2b0
    try clear c2b1
    try clear p2
    try clear c3
    try clear c3b0
    try clear c3b1
    try clear c3b2
    obtain ⟨x19_1, rfl, HA, HK1, HB⟩ := hrel
    cases gk with
    | zero => exact absurd HA.out (by simp [tree_Check.l0])
    | succ k1 =>
     have H := HA.out
     clear HA
     simp only [tree_Check.l0] at H
     by_cases c4 : x19_1 < (l0.length : Int)
     ·rw [if_pos c4] at H
      have c4b0 : decide (x19_1 < (l0.length : Int)) = true := decide_eq_true c4
      clear c4
      by_cases c5 : 0 ≤ x19_1
      ·rw [if_pos c5] at H
       have c5b0 : decide (0 ≤ x19_1) = true := decide_eq_true c5
       clear c5
       by_cases c6 : x19_1 < (l0.length : Int)
       ·rw [if_pos c6] at H
        have c6b0 : decide (x19_1 < (l0.length : Int)) = true := decide_eq_true c6
        clear c6
        replace H := Option.bind_eq_some_iff.mp H
        obtain ⟨t206, A70, H⟩ := H
        replace H : (if t206 = 0 then (tree_Check.l0 k1 l0 l0 (l0.length : Int) (wrap64 (x19_1 + 1))) else (some (t206, x19_1))) = some (r1, r2) := H
        have A7 := A0s.mk A70
        clear A70
        by_cases c8 : t206 = 0
        ·rw [if_pos c8] at H
         have c8b0 : (t206 == 0) = true := beq_iff_eq.mpr c8
         have c8b1 : (t206 != 0) = false := bne_eq_false_iff_eq.mpr c8
         clear c8
         have H' := A0s.mk H
         clear H
         have p204 : 0 ≤ (x19_1 : Int) := of_decide_eq_true (by first | (with_reducible assumption) | assumption)
         have q204 : x19_1 < (l0.length : Int) := of_decide_eq_true (by first | (with_reducible assumption) | assumption)
         obtain ⟨ad204, e204, hx204_0, hx204_1⟩ := at_T178 HR0.out x19_1 p204 q204
         cases e204
         replace hx204_0 := (HB.out.cell (World.block_lt_of_cell? w _ hx204_0)).trans hx204_0
         replace hx204_1 := (HB.out.cell (World.block_lt_of_cell? w _ hx204_1)).trans hx204_1
         replace p204 := eq_true p204
         replace q204 := eq_true q204
         go_wp2_with (first | ((with_reducible refine gate_dst (N := 5) rfl ?_); refine box_event ?hg (N := 5) ?hd (cs := #[.int .i64 0, .int .i64 0]) (t := 178) ?hr ?_; (case hd => rfl); (case hg => rfl); (case hr => first | (go_simp; done) | (go_simp; rfl)); intro gb205 hg w9 hbox hb; have n0_ := A0s.mk (below_step (by repeat (first | (with_reducible first | exact HB.out | apply bA | apply bN | apply bD) | exact HB.out)) hb); have n1_ := A0s.mk (hbox); have n2_ := A0s.mk ((by rw [hg]; exact (below_size (by repeat (first | (with_reducible first | exact HB.out | apply bA | apply bN | apply bD) | exact HB.out))) : w.heap.size ≤ gb205)); have n3_ := A0s.mk ((by rw [hg]; exact (below_size (by repeat (first | (with_reducible first | exact HB.out | apply bA | apply bN | apply bD) | exact HB.out))) : w.heap.size ≤ gb205)); clear HB; have HB := n0_; have BK205 := n1_; have GW205 := n2_; have GE205 := n3_; clear n0_ n1_ n2_ n3_; clear hb hbox hg; obtain ⟨hcz10_0, hcz10_1, hfz10_0, hfz10_1⟩ := blk_all2 BK205.out) | ((with_reducible refine gC (f := 110) rfl ?_); refine gL (some 27) rfl rfl Try.func110 (by kernel_rfl) rfl #[.agg #[.int .i64 ((rd_T178 l0 x19_1).f0), .int .i64 ((rd_T178 l0 x19_1).f1)], .int .i64 (l0.length : Int)] rfl (by (try simp only [List.map_toArray, List.map_cons, List.map_nil]); first | done | rfl | (simp only [List.length_drop, List.length_take]; rfl)) ?_; (with_reducible refine (tree_Node_wrong.calls k1 ((rd_T178 l0 x19_1).f0) ((rd_T178 l0 x19_1).f1) (l0.length : Int) t206 _ A7.out).mono ?_); rintro e w11 ⟨rfl, hb⟩; refine ⟨_, rfl, ?_⟩; have n0_ := A0s.mk (blk_below (g := gb205) (o := .cells #[.int .i64 ((rd_T178 l0 x19_1).f0), .int .i64 ((rd_T178 l0 x19_1).f1)] 178 (0, 0)) (by (with_reducible repeat (first | apply kN | apply kD | apply kA)); refine blk_put (cs := #[.int .i64 ((rd_T178 l0 x19_1).f0), .int .i64 0]) ?_ 1 _ rfl; (with_reducible repeat (first | apply kN | apply kD | apply kA)); refine blk_put (cs := #[.int .i64 0, .int .i64 0]) ?_ 0 _ rfl; (with_reducible repeat (first | apply kN | apply kD | apply kA)); exact BK205.out) hb); have n1_ := A0s.mk (below_step (by repeat (first | (with_reducible first | exact HB.out | apply bA | apply bN | apply bD | refine bS ?_ GE205.out) | exact HB.out)) hb); clear BK205; clear HB; have BK205 := n0_; have HB := n1_; clear n0_ n1_; (try clear hb); (try clear hb2); (try clear hk); (try clear hi)))
         go_roundg k1
         case measure => have := HK1.out; omega
         case rel => exact ⟨(wrap64 (x19_1 + 1)), (by first | rfl | (simp; done) | (simp [*]; done)), H', ⟨by have := HK1.out; omega⟩, ⟨by repeat (first | (with_reducible first | exact HB.out | apply bA | apply bN | apply bD | refine bS ?_ GE205.out) | exact HB.out)⟩⟩
        ·rw [if_neg c8] at H
         have c8b0 : (t206 == 0) = false := beq_eq_false_iff_ne.mpr c8
         have c8b1 : (t206 != 0) = true := bne_iff_ne.mpr c8
         simp only [Option.some.injEq, Prod.mk.injEq] at H
         obtain ⟨rfl, rfl⟩ := H
         have p204 : 0 ≤ (x19_1 : Int) := of_decide_eq_true (by first | (with_reducible assumption) | assumption)
         have q204 : x19_1 < (l0.length : Int) := of_decide_eq_true (by first | (with_reducible assumption) | assumption)
         obtain ⟨ad204, e204, hx204_0, hx204_1⟩ := at_T178 HR0.out x19_1 p204 q204
         cases e204
         replace hx204_0 := (HB.out.cell (World.block_lt_of_cell? w _ hx204_0)).trans hx204_0
         replace hx204_1 := (HB.out.cell (World.block_lt_of_cell? w _ hx204_1)).trans hx204_1
         replace p204 := eq_true p204
         replace q204 := eq_true q204
         go_wp2_with (first | ((with_reducible refine gate_dst (N := 5) rfl ?_); refine box_event ?hg (N := 5) ?hd (cs := #[.int .i64 0, .int .i64 0]) (t := 178) ?hr ?_; (case hd => rfl); (case hg => rfl); (case hr => first | (go_simp; done) | (go_simp; rfl)); intro gb205 hg w12 hbox hb; have n0_ := A0s.mk (below_step (by repeat (first | (with_reducible first | exact HB.out | apply bA | apply bN | apply bD) | exact HB.out)) hb); have n1_ := A0s.mk (hbox); have n2_ := A0s.mk ((by rw [hg]; exact (below_size (by repeat (first | (with_reducible first | exact HB.out | apply bA | apply bN | apply bD) | exact HB.out))) : w.heap.size ≤ gb205)); have n3_ := A0s.mk ((by rw [hg]; exact (below_size (by repeat (first | (with_reducible first | exact HB.out | apply bA | apply bN | apply bD) | exact HB.out))) : w.heap.size ≤ gb205)); clear HB; have HB := n0_; have BK205 := n1_; have GW205 := n2_; have GE205 := n3_; clear n0_ n1_ n2_ n3_; clear hb hbox hg; obtain ⟨hcz13_0, hcz13_1, hfz13_0, hfz13_1⟩ := blk_all2 BK205.out) | ((with_reducible refine gC (f := 110) rfl ?_); refine gL (some 27) rfl rfl Try.func110 (by kernel_rfl) rfl #[.agg #[.int .i64 ((rd_T178 l0 x19_1).f0), .int .i64 ((rd_T178 l0 x19_1).f1)], .int .i64 (l0.length : Int)] rfl (by (try simp only [List.map_toArray, List.map_cons, List.map_nil]); first | done | rfl | (simp only [List.length_drop, List.length_take]; rfl)) ?_; (with_reducible refine (tree_Node_wrong.calls k1 ((rd_T178 l0 x19_1).f0) ((rd_T178 l0 x19_1).f1) (l0.length : Int) t206 _ A7.out).mono ?_); rintro e w14 ⟨rfl, hb⟩; refine ⟨_, rfl, ?_⟩; have n0_ := A0s.mk (blk_below (g := gb205) (o := .cells #[.int .i64 ((rd_T178 l0 x19_1).f0), .int .i64 ((rd_T178 l0 x19_1).f1)] 178 (0, 0)) (by (with_reducible repeat (first | apply kN | apply kD | apply kA)); refine blk_put (cs := #[.int .i64 ((rd_T178 l0 x19_1).f0), .int .i64 0]) ?_ 1 _ rfl; (with_reducible repeat (first | apply kN | apply kD | apply kA)); refine blk_put (cs := #[.int .i64 0, .int .i64 0]) ?_ 0 _ rfl; (with_reducible repeat (first | apply kN | apply kD | apply kA)); exact BK205.out) hb); have n1_ := A0s.mk (below_step (by repeat (first | (with_reducible first | exact HB.out | apply bA | apply bN | apply bD | refine bS ?_ GE205.out) | exact HB.out)) hb); clear BK205; clear HB; have BK205 := n0_; have HB := n1_; clear n0_ n1_; (try clear hb); (try clear hb2); (try clear hk); (try clear hi)))
         (try rw [Exit.noGoto_ret])
         go_ret2
         exact ⟨by first | rfl | (simp [errW_none, errW_some] <;> rfl) | (simp [*, errW_none, errW_some] <;> rfl), by repeat (first | (with_reducible first | exact HB.out | apply bA | apply bN | apply bD | refine bS ?_ GE205.out) | exact HB.out)⟩
       ·rw [if_neg c6] at H
        exact absurd H (by simp)
      ·rw [if_neg c5] at H
       exact absurd H (by simp)
     ·rw [if_neg c4] at H
      have c4b0 : decide (x19_1 < (l0.length : Int)) = false := decide_eq_false c4
      clear c4
      have H' := A0s.mk H
      clear H
      go_wp2; (try (go_step3; go_wp2)); (try (go_step3; go_wp2))
      go_loopg [35] k1 (fun kq v35 w' => ∃ (x35_2 : Int), v35 = .int .i64 x35_2 ∧ A0s (tree_Check.l1 kq l0 (l0.length : Int) x35_2 = some (r1, r2)) ∧ A0s (kq ≤ k1) ∧ A0s (Below w.heap.size w w'))
      case atStart => exact ⟨(0), (by first | rfl | (simp; done) | (simp [*]; done)), H', ⟨Nat.le_refl _⟩, ⟨by repeat (first | (with_reducible first | exact HB.out | apply bA | apply bN | apply bD) | exact HB.out)⟩⟩
      case round =>
       clear H'
       try clear c1
       try clear c2
       try clear c2b0
       try clear c2b1
       try clear p2
       try clear q2
       try clear hx2
       try clear c3
       try clear c3b0
       try clear c3b1
       try clear c3b2
       try clear c4
       try clear c4b0
       try clear c5
       try clear c5b0
       try clear c6
       try clear c6b0
       try clear p6
       try clear c8
       try clear c8b0
       try clear c8b1
       try clear c11
       try clear hcz10_0
       try clear hcz10_1
       try clear hcz13_0
       try clear hcz13_1
       try clear hfz10_0
       try clear hfz10_1
       try clear hfz13_0
       try clear hfz13_1
       try clear hx204_0
       try clear hx204_1
       try clear p2
       try clear p204
       try clear q204
       obtain ⟨x35_2, rfl, HA, HK2, HB⟩ := hrel
       cases gk with
       | zero => exact absurd HA.out (by simp [tree_Check.l1])
       | succ k2 =>
        have H := HA.out
        clear HA
        simp only [tree_Check.l1] at H
        by_cases c15 : x35_2 < (l0.length : Int)
        ·rw [if_pos c15] at H
         have c15b0 : decide (x35_2 < (l0.length : Int)) = true := decide_eq_true c15
         clear c15
         have H' := A0s.mk H
         clear H
         go_wp2; (try (go_step3; go_wp2)); (try (go_step3; go_wp2))
         go_loopg [8, 39] k2 (fun kq v8 v39 w' => ∃ (x8_3 : Int) (x39_3 : Int), v8 = .int .i64 x8_3 ∧ v39 = .int .i64 x39_3 ∧ A0s (tree_Check.l2 kq l0 x35_2 x8_3 (l0.length : Int) x35_2 x39_3 = some (r1, r2)) ∧ A0s (kq ≤ k2) ∧ A0s (Below w.heap.size w w'))
         case atStart => exact ⟨(x35_2), (0), (by first | rfl | (simp; done) | (simp [*]; done)), (by first | rfl | (simp; done) | (simp [*]; done)), H', ⟨Nat.le_refl _⟩, ⟨by repeat (first | (with_reducible first | exact HB.out | apply bA | apply bN | apply bD) | exact HB.out)⟩⟩
         case round =>
          clear H'
          try clear c1
          try clear c2
          try clear c2b0
          try clear c2b1
          try clear p2
          try clear q2
          try clear hx2
          try clear c3
          try clear c3b0
          try clear c3b1
          try clear c3b2
          try clear c4
          try clear c4b0
          try clear c5
          try clear c5b0
          try clear c6
          try clear c6b0
          try clear p6
          try clear c8
          try clear c8b0
          try clear c8b1
          try clear c11
          try clear c15
          try clear c15b0
          try clear hcz10_0
          try clear hcz10_1
          try clear hcz13_0
          try clear hcz13_1
          try clear hfz10_0
          try clear hfz10_1
          try clear hfz13_0
          try clear hfz13_1
          try clear hx204_0
          try clear hx204_1
          try clear p2
          try clear p204
          try clear p6
          try clear q2
          try clear q204
          obtain ⟨x8_3, x39_3, rfl, rfl, HA, HK3, HB⟩ := hrel
          cases gk with
          | zero => exact absurd HA.out (by simp [tree_Check.l2])
          | succ k3 =>
           have H := HA.out
           clear HA
           simp only [tree_Check.l2] at H
           by_cases c16 : x39_3 < 3
           ·rw [if_pos c16] at H
            have c16b0 : decide (x39_3 < 3) = true := decide_eq_true c16
            clear c16
            by_cases c17 : 0 ≤ x8_3
            ·rw [if_pos c17] at H
             have c17b0 : decide (0 ≤ x8_3) = true := decide_eq_true c17
             clear c17
             by_cases c18 : x8_3 < (l0.length : Int)
             ·rw [if_pos c18] at H
              have c18b0 : decide (x8_3 < (l0.length : Int)) = true := decide_eq_true c18
              clear c18
              by_cases c19 : ((rd_T178 l0 x8_3).f0) = (-1)
              ·rw [if_pos c19] at H
               have c19b0 : (((rd_T178 l0 x8_3).f0) == (-1)) = true := beq_iff_eq.mpr c19
               have c19b1 : (((rd_T178 l0 x8_3).f0) != (-1)) = false := bne_eq_false_iff_eq.mpr c19
               clear c19
               have H' := A0s.mk H
               clear H
               have p207 : 0 ≤ (x8_3 : Int) := of_decide_eq_true (by first | (with_reducible assumption) | assumption)
               have q207 : x8_3 < (l0.length : Int) := of_decide_eq_true (by first | (with_reducible assumption) | assumption)
               obtain ⟨ad207, e207, hx207_0, hx207_1⟩ := at_T178 HR0.out x8_3 p207 q207
               cases e207
               replace hx207_0 := (HB.out.cell (World.block_lt_of_cell? w _ hx207_0)).trans hx207_0
               replace hx207_1 := (HB.out.cell (World.block_lt_of_cell? w _ hx207_1)).trans hx207_1
               replace p207 := eq_true p207
               replace q207 := eq_true q207
               go_wp2; (try (go_step3; go_wp2)); (try (go_step3; go_wp2))
               go_roundg k3
               case measure => have := HK1.out; have := HK2.out; have := HK3.out; omega
               case rel => exact ⟨(wrap64 (x35_2 + 1)), (by first | rfl | (simp; done) | (simp [*]; done)), H', ⟨by have := HK1.out; have := HK2.out; have := HK3.out; omega⟩, ⟨by repeat (first | (with_reducible first | exact HB.out | apply bA | apply bN | apply bD) | exact HB.out)⟩⟩
              ·rw [if_neg c19] at H
               have c19b0 : (((rd_T178 l0 x8_3).f0) == (-1)) = false := beq_eq_false_iff_ne.mpr c19
               have c19b1 : (((rd_T178 l0 x8_3).f0) != (-1)) = true := bne_iff_ne.mpr c19
               have H' := A0s.mk H
               clear H
               have p207 : 0 ≤ (x8_3 : Int) := of_decide_eq_true (by first | (with_reducible assumption) | assumption)
               have q207 : x8_3 < (l0.length : Int) := of_decide_eq_true (by first | (with_reducible assumption) | assumption)
               obtain ⟨ad207, e207, hx207_0, hx207_1⟩ := at_T178 HR0.out x8_3 p207 q207
               cases e207
               replace hx207_0 := (HB.out.cell (World.block_lt_of_cell? w _ hx207_0)).trans hx207_0
               replace hx207_1 := (HB.out.cell (World.block_lt_of_cell? w _ hx207_1)).trans hx207_1
               replace p207 := eq_true p207
               replace q207 := eq_true q207
               go_wp2; (try (go_step3; go_wp2)); (try (go_step3; go_wp2))
               go_roundg k3
               case measure => have := HK1.out; have := HK2.out; have := HK3.out; omega
               case rel => exact ⟨((rd_T178 l0 x8_3).f0), (wrap64 (x39_3 + 1)), (by first | rfl | (simp; done) | (simp [*]; done)), (by first | rfl | (simp; done) | (simp [*]; done)), H', ⟨by have := HK1.out; have := HK2.out; have := HK3.out; omega⟩, ⟨by repeat (first | (with_reducible first | exact HB.out | apply bA | apply bN | apply bD) | exact HB.out)⟩⟩
             ·rw [if_neg c18] at H
              exact absurd H (by simp)
            ·rw [if_neg c17] at H
             exact absurd H (by simp)
           ·rw [if_neg c16] at H
            have c16b0 : decide (x39_3 < 3) = false := decide_eq_false c16
            clear c16
            simp only [Option.some.injEq, Prod.mk.injEq] at H
            obtain ⟨rfl, rfl⟩ := H
            go_wp2; (try (go_step3; go_wp2)); (try (go_step3; go_wp2))
            (try rw [Exit.noGoto_ret])
            go_ret2
            exact ⟨by first | rfl | (simp [errW_none, errW_some] <;> rfl) | (simp [*, errW_none, errW_some] <;> rfl), by repeat (first | (with_reducible first | exact HB.out | apply bA | apply bN | apply bD) | exact HB.out)⟩
        ·rw [if_neg c15] at H
         have c15b0 : decide (x35_2 < (l0.length : Int)) = false := decide_eq_false c15
         clear c15
         simp only [Option.some.injEq, Prod.mk.injEq] at H
         obtain ⟨rfl, rfl⟩ := H
         go_wp2; (try (go_step3; go_wp2)); (try (go_step3; go_wp2))
         (try rw [Exit.noGoto_ret])
         go_ret2
         exact ⟨by first | rfl | (simp [errW_none, errW_some] <;> rfl) | (simp [*, errW_none, errW_some] <;> rfl), by repeat (first | (with_reducible first | exact HB.out | apply bA | apply bN | apply bD) | exact HB.out)⟩

/-! ### rules_Check_1: function 88 -/
def rules_Check_1.f (a0 : Int) (lf1 : List (S178)) : Option (Bool) := (rules_within_int.f a0 0 (wrap64 ((lf1.length : Int) - 1))).bind fun t_ => (some (!t_))
set_option maxHeartbeats 8000000 in
set_option maxRecDepth 100000 in
theorem rules_Check_1.calls (a0 : Int) (gf1 : Nat) (Af1 : Option Addr) (cf1 : Nat) (lf1 : List (S178)) (r : Bool) (w : World) (hf1_ : w.cell? ⟨gf1, 4, none⟩ = some (.slice Af1 lf1.length cf1)) (h : rules_Check_1.f a0 lf1 = some r) :
  Calls Try.prog 88 #[.int .i64 a0, .pointer (some ⟨gf1, 0, none⟩)] w fun e w' => e = .returned (.bool r) ∧ Drawn0 w w' := by
 unfold rules_Check_1.f at h
 obtain ⟨t, ht, h⟩ := Option.bind_eq_some_iff.mp h
 obtain rfl := Option.some.inj h
 have A1 := A0s.mk ht
 clear ht h
 go_enter Try.func88, Try.ntmps88
 go_wp2_with (go_at_call 85; (with_reducible refine (rules_within_int.calls a0 0 (wrap64 ((lf1.length : Int) - 1)) t _ A1.out).mono ?_); rintro e w' ⟨rfl, ⟨nd, rfl⟩⟩)
 go_ret
 exact ⟨by first | rfl | (simp; done) | (simp [*]; done), by repeat (first | exact Drawn0.refl _ | apply Drawn0.step)⟩

/-! ### slices_IndexFunc_int_int: function 111 -/
def slices_IndexFunc_int_int.l0 (lf1 : List (S178)) : Nat → List Int → Int → Int → Option (Int)
 | 0, _, _, _ => none
 | k + 1, x0, x7, x8 => if x8 < x7 then (if 0 ≤ x8 then (if x8 < (x0.length : Int) then ((rules_Check_1.f (rd x0 x8) lf1).bind fun t209 => (if t209 = true then (some x8) else (slices_IndexFunc_int_int.l0 lf1 k x0 x7 (wrap64 (x8 + 1))))) else (none)) else (none)) else (some (-1))
def slices_IndexFunc_int_int.f (k : Nat) (l0 : List Int) (lf1 : List (S178)) : Option (Int) := slices_IndexFunc_int_int.l0 lf1 k l0 (l0.length : Int) 0
theorem slices_IndexFunc_int_int.mono_l (lf1 : List (S178)) : ∀ k, (∀ y0 y1 y2, LeO (slices_IndexFunc_int_int.l0 lf1 k y0 y1 y2) (slices_IndexFunc_int_int.l0 lf1 (k + 1) y0 y1 y2))
 | 0 => fun _ _ _ r h => by simp [slices_IndexFunc_int_int.l0] at h
 | k + 1 => by
  have ih0 := slices_IndexFunc_int_int.mono_l lf1 k
  ·intro y0 y1 y2
   unfold slices_IndexFunc_int_int.l0
   repeat' first
   | (with_reducible exact ih0 _ _ _)
   | (with_reducible exact LeO.refl _)
   | (with_reducible exact LeO.none _)
   | (with_reducible refine LeO.ite ?_ ?_)
   | (with_reducible refine LeO.bind ?_ (fun _ => ?_))
   | exact ih0 _ _ _
   | exact LeO.none _
   | refine LeO.ite ?_ ?_
   | refine LeO.bind ?_ (fun _ => ?_)
theorem slices_IndexFunc_int_int.mono : ∀ a0 a1 k, LeO (slices_IndexFunc_int_int.f k a0 a1) (slices_IndexFunc_int_int.f (k + 1) a0 a1) := by
 intro a0 a1 k
 have ih0 := slices_IndexFunc_int_int.mono_l a1 k
 unfold slices_IndexFunc_int_int.f
 repeat' first
   | (with_reducible exact ih0 _ _ _)
   | (with_reducible exact LeO.refl _)
   | (with_reducible exact LeO.none _)
   | (with_reducible refine LeO.ite ?_ ?_)
   | (with_reducible refine LeO.bind ?_ (fun _ => ?_))
   | exact ih0 _ _ _
   | exact LeO.none _
   | refine LeO.ite ?_ ?_
   | refine LeO.bind ?_ (fun _ => ?_)
set_option maxHeartbeats 8000000 in
set_option maxRecDepth 100000 in
theorem slices_IndexFunc_int_int.calls (k : Nat) (A0 : Option Addr) (c0 : Nat) (l0 : List Int) (gf1 : Nat) (Af1 : Option Addr) (cf1 : Nat) (lf1 : List (S178)) (r : Int) (w : World) (hr0 : Kd.C (Kd.int .i64) w A0 l0.length l0) (hc0 : l0.length ≤ c0) (hf1_ : w.cell? ⟨gf1, 4, none⟩ = some (.slice Af1 lf1.length cf1)) (h : slices_IndexFunc_int_int.f k l0 lf1 = some r) :
  Calls Try.prog 111 #[.slice A0 l0.length c0, .func (.func 88) #[] #[.pointer (some ⟨gf1, 0, none⟩)]] w fun e w' => e = .returned (.int .i64 r) ∧ Drawn0 w w' := by
 have HR0 := A0s.mk hr0
 have HC0 := A0s.mk hc0
 clear hr0 hc0
 have HF1 := A0s.mk hf1_
 clear hf1_
 have H : (slices_IndexFunc_int_int.l0 lf1 k l0 (l0.length : Int) 0) = some r := h
 clear h
 have H' := A0s.mk H
 clear H
 go_enter Try.func111, Try.ntmps111
 go_wp2
 go_loopg [8] k (fun kq v8 w' => ∃ (x8_1 : Int), v8 = .int .i64 x8_1 ∧ A0s (slices_IndexFunc_int_int.l0 lf1 kq l0 (l0.length : Int) x8_1 = some r) ∧ A0s (kq ≤ k) ∧ Drawn0 w w')
 case atStart => exact ⟨(0), (by first | rfl | (simp; done) | (simp [*]; done)), H', ⟨Nat.le_refl _⟩, by repeat (first | exact Drawn0.refl _ | apply Drawn0.step)⟩
 case round =>
  clear H'
  try clear c1
  try clear p2
  obtain ⟨x8_1, rfl, HA, HK1, ⟨m1, rfl⟩⟩ := hrel
  cases gk with
  | zero => exact absurd HA.out (by simp [slices_IndexFunc_int_int.l0])
  | succ k1 =>
   have H := HA.out
   clear HA
   simp only [slices_IndexFunc_int_int.l0] at H
   by_cases c3 : x8_1 < (l0.length : Int)
   ·rw [if_pos c3] at H
    have c3b0 : decide (x8_1 < (l0.length : Int)) = true := decide_eq_true c3
    clear c3
    by_cases c4 : 0 ≤ x8_1
    ·rw [if_pos c4] at H
     have c4b0 : decide (0 ≤ x8_1) = true := decide_eq_true c4
     clear c4
     by_cases c5 : x8_1 < (l0.length : Int)
     ·rw [if_pos c5] at H
      have c5b0 : decide (x8_1 < (l0.length : Int)) = true := decide_eq_true c5
      clear c5
      replace H := Option.bind_eq_some_iff.mp H
      obtain ⟨t209, A60, H⟩ := H
      replace H : (if t209 = true then (some x8_1) else (slices_IndexFunc_int_int.l0 lf1 k1 l0 (l0.length : Int) (wrap64 (x8_1 + 1)))) = some r := H
      have A6 := A0s.mk A60
      clear A60
      by_cases c7 : t209 = true
      ·subst c7
       have H1 : (some x8_1) = some r := by rw [if_pos rfl] at H; exact H
       clear H
       have H := H1
       clear H1
       obtain rfl := Option.some.inj H
       have p208 : 0 ≤ (x8_1 : Int) := of_decide_eq_true (by first | (with_reducible assumption) | assumption)
       have q208 : x8_1 < (l0.length : Int) := of_decide_eq_true (by first | (with_reducible assumption) | assumption)
       obtain ⟨ad208, e208, hx208_0⟩ := Kd.at_int HR0.out x8_1 p208 q208
       cases e208
       replace p208 := eq_true p208
       replace q208 := eq_true q208
       go_wp2_with (first | (go_at_call 88; (with_reducible refine (rules_Check_1.calls (rd l0 x8_1) gf1 Af1 cf1 lf1 true _ ?side1 A6.out).mono ?_); (case side1 => exact HF1.out); rintro e w' ⟨rfl, ⟨nd, rfl⟩⟩))
       go_ret
       exact ⟨by first | rfl | (simp; done) | (simp [*]; done), by repeat (first | exact Drawn0.refl _ | apply Drawn0.step)⟩
      ·replace c7 := Bool.eq_false_iff.mpr c7
       subst c7
       have H1 : (slices_IndexFunc_int_int.l0 lf1 k1 l0 (l0.length : Int) (wrap64 (x8_1 + 1))) = some r := by rw [if_neg (show ¬ (false = true) by decide)] at H; exact H
       clear H
       have H := H1
       clear H1
       have H' := A0s.mk H
       clear H
       have p208 : 0 ≤ (x8_1 : Int) := of_decide_eq_true (by first | (with_reducible assumption) | assumption)
       have q208 : x8_1 < (l0.length : Int) := of_decide_eq_true (by first | (with_reducible assumption) | assumption)
       obtain ⟨ad208, e208, hx208_0⟩ := Kd.at_int HR0.out x8_1 p208 q208
       cases e208
       replace p208 := eq_true p208
       replace q208 := eq_true q208
       go_wp2_with (first | (go_at_call 88; (with_reducible refine (rules_Check_1.calls (rd l0 x8_1) gf1 Af1 cf1 lf1 false _ ?side1 A6.out).mono ?_); (case side1 => exact HF1.out); rintro e w' ⟨rfl, ⟨nd, rfl⟩⟩))
       go_roundg k1
       case measure => have := HK1.out; omega
       case rel => exact ⟨(wrap64 (x8_1 + 1)), (by first | rfl | (simp; done) | (simp [*]; done)), H', ⟨by have := HK1.out; omega⟩, by repeat (first | exact Drawn0.refl _ | apply Drawn0.step)⟩
     ·rw [if_neg c5] at H
      exact absurd H (by simp)
    ·rw [if_neg c4] at H
     exact absurd H (by simp)
   ·rw [if_neg c3] at H
    have c3b0 : decide (x8_1 < (l0.length : Int)) = false := decide_eq_false c3
    clear c3
    obtain rfl := Option.some.inj H
    go_wp2
    go_ret
    exact ⟨by first | rfl | (simp; done) | (simp [*]; done), by repeat (first | exact Drawn0.refl _ | apply Drawn0.step)⟩

/-! ### slices_ContainsFunc_int_int: function 87 -/
def slices_ContainsFunc_int_int.f (k : Nat) (l0 : List Int) (lf1 : List (S178)) : Option (Bool) := (slices_IndexFunc_int_int.f k l0 lf1).bind fun t210 => (some (decide (t210 ≥ 0)))
theorem slices_ContainsFunc_int_int.mono : ∀ a0 a1 k, LeO (slices_ContainsFunc_int_int.f k a0 a1) (slices_ContainsFunc_int_int.f (k + 1) a0 a1) := by
 intro a0 a1 k
 unfold slices_ContainsFunc_int_int.f
 repeat' first
   | (with_reducible exact slices_IndexFunc_int_int.mono _ _ _)
   | (with_reducible exact LeO.refl _)
   | (with_reducible exact LeO.none _)
   | (with_reducible refine LeO.ite ?_ ?_)
   | (with_reducible refine LeO.bind ?_ (fun _ => ?_))
   | exact slices_IndexFunc_int_int.mono _ _ _
   | exact LeO.none _
   | refine LeO.ite ?_ ?_
   | refine LeO.bind ?_ (fun _ => ?_)
set_option maxHeartbeats 8000000 in
set_option maxRecDepth 100000 in
theorem slices_ContainsFunc_int_int.calls (k : Nat) (A0 : Option Addr) (c0 : Nat) (l0 : List Int) (gf1 : Nat) (Af1 : Option Addr) (cf1 : Nat) (lf1 : List (S178)) (r : Bool) (w : World) (hr0 : Kd.C (Kd.int .i64) w A0 l0.length l0) (hc0 : l0.length ≤ c0) (hf1_ : w.cell? ⟨gf1, 4, none⟩ = some (.slice Af1 lf1.length cf1)) (h : slices_ContainsFunc_int_int.f k l0 lf1 = some r) :
  Calls Try.prog 87 #[.slice A0 l0.length c0, .func (.func 88) #[] #[.pointer (some ⟨gf1, 0, none⟩)]] w fun e w' => e = .returned (.bool r) ∧ Drawn0 w w' := by
 have HR0 := A0s.mk hr0
 have HC0 := A0s.mk hc0
 clear hr0 hc0
 have HF1 := A0s.mk hf1_
 clear hf1_
 have H : ((slices_IndexFunc_int_int.f k l0 lf1).bind fun t210 => (some (decide (t210 ≥ 0)))) = some r := h
 clear h
 replace H := Option.bind_eq_some_iff.mp H
 obtain ⟨t210, A30, H⟩ := H
 replace H : (some (decide (t210 ≥ 0))) = some r := H
 have A3 := A0s.mk A30
 clear A30
 obtain rfl := Option.some.inj H
 go_enter Try.func87, Try.ntmps87
 go_wp2_with (first | ((with_reducible refine gC (f := 111) rfl ?_); refine gL (some 7) rfl rfl Try.func111 (by kernel_rfl) rfl #[.slice A0 l0.length c0, .func (.func 88) #[] #[.pointer (some ⟨gf1, 0, none⟩)]] rfl (by (try simp only [List.map_toArray, List.map_cons, List.map_nil]); first | done | rfl | (simp only [List.length_drop, List.length_take]; rfl)) ?_; (with_reducible refine (slices_IndexFunc_int_int.calls k _ _ l0 gf1 Af1 cf1 lf1 t210 _ ?side1 ?side2 ?side3 A3.out).mono ?_); (case side1 => repeat (first | exact HR0.out | (with_reducible refine Kd.C_alloc ?_ _) | (with_reducible refine Kd.C_drewN ?_ _) | (with_reducible refine Kd.C_drew ?_))); (case side2 => exact HC0.out); (case side3 => exact HF1.out); rintro e w' ⟨rfl, ⟨nd, rfl⟩⟩; refine ⟨_, rfl, ?_⟩))
 go_ret
 exact ⟨by first | rfl | (simp; done) | (simp [*]; done), by repeat (first | exact Drawn0.refl _ | apply Drawn0.step)⟩

/-! ### math_IsNaN: function 118 -/
def math_IsNaN.f (a0 : Nat) : Option (Bool) := some (FloatKind.f64.format.order a0 a0 != some .eq)
set_option maxHeartbeats 8000000 in
set_option maxRecDepth 100000 in
theorem math_IsNaN.calls (a0 : Nat) (r : Bool) (w : World) (h : math_IsNaN.f a0 = some r) :
  Calls Try.prog 118 #[.float .f64 a0] w fun e w' => e = .returned (.bool r) ∧ Drawn0 w w' := by
 have H : (some (FloatKind.f64.format.order a0 a0 != some .eq)) = some r := h
 clear h
 obtain rfl := Option.some.inj H
 go_enter Try.func118, Try.ntmps118
 go_wp2
 go_ret
 exact ⟨by first | rfl | (simp; done) | (simp [*]; done), by repeat (first | exact Drawn0.refl _ | apply Drawn0.step)⟩

/-! ### band_Right: function 97 -/
def band_Right.f (a0 : Nat) : Option (Bool) := (math_IsNaN.f a0).bind fun t211 => (if t211 = true then (some false) else (some (FloatKind.f64.format.order a0 0 == some .gt || FloatKind.f64.format.order a0 0 == some .eq)))
set_option maxHeartbeats 8000000 in
set_option maxRecDepth 100000 in
theorem band_Right.calls (a0 : Nat) (r : Bool) (w : World) (h : band_Right.f a0 = some r) :
  Calls Try.prog 97 #[.float .f64 a0] w fun e w' => e = .returned (.bool r) ∧ Drawn0 w w' := by
 have H : ((math_IsNaN.f a0).bind fun t211 => (if t211 = true then (some false) else (some (FloatKind.f64.format.order a0 0 == some .gt || FloatKind.f64.format.order a0 0 == some .eq)))) = some r := h
 clear h
 replace H := Option.bind_eq_some_iff.mp H
 obtain ⟨t211, A20, H⟩ := H
 replace H : (if t211 = true then (some false) else (some (FloatKind.f64.format.order a0 0 == some .gt || FloatKind.f64.format.order a0 0 == some .eq))) = some r := H
 have A2 := A0s.mk A20
 clear A20
 by_cases c3 : t211 = true
 ·subst c3
  have H1 : (some false) = some r := by rw [if_pos rfl] at H; exact H
  clear H
  have H := H1
  clear H1
  obtain rfl := Option.some.inj H
  go_enter Try.func97, Try.ntmps97
  go_wp2_with (first | ((with_reducible refine gC (f := 118) rfl ?_); refine gL (some 4) rfl rfl Try.func118 (by kernel_rfl) rfl #[.float .f64 a0] rfl (by (try simp only [List.map_toArray, List.map_cons, List.map_nil]); first | done | rfl | (simp only [List.length_drop, List.length_take]; rfl)) ?_; (with_reducible refine (math_IsNaN.calls a0 true _ A2.out).mono ?_); rintro e w' ⟨rfl, ⟨nd, rfl⟩⟩; refine ⟨_, rfl, ?_⟩))
  go_ret
  exact ⟨by first | rfl | (simp; done) | (simp [*]; done), by repeat (first | exact Drawn0.refl _ | apply Drawn0.step)⟩
 ·replace c3 := Bool.eq_false_iff.mpr c3
  subst c3
  have H1 : (some (FloatKind.f64.format.order a0 0 == some .gt || FloatKind.f64.format.order a0 0 == some .eq)) = some r := by rw [if_neg (show ¬ (false = true) by decide)] at H; exact H
  clear H
  have H := H1
  clear H1
  obtain rfl := Option.some.inj H
  go_enter Try.func97, Try.ntmps97
  go_wp2_with (first | ((with_reducible refine gC (f := 118) rfl ?_); refine gL (some 4) rfl rfl Try.func118 (by kernel_rfl) rfl #[.float .f64 a0] rfl (by (try simp only [List.map_toArray, List.map_cons, List.map_nil]); first | done | rfl | (simp only [List.length_drop, List.length_take]; rfl)) ?_; (with_reducible refine (math_IsNaN.calls a0 false _ A2.out).mono ?_); rintro e w' ⟨rfl, ⟨nd, rfl⟩⟩; refine ⟨_, rfl, ?_⟩))
  go_ret
  exact ⟨by first | rfl | (simp; done) | (simp [*]; done), by repeat (first | exact Drawn0.refl _ | apply Drawn0.step)⟩

/-! ### rules_within_int64: function 113 -/
def rules_within_int64.f (a0 : Int) (a1 : Int) (a2 : Int) : Option (Bool) := if a0 ≥ a1 then (some (decide (a0 ≤ a2))) else (some false)
set_option maxHeartbeats 8000000 in
set_option maxRecDepth 100000 in
theorem rules_within_int64.calls (a0 : Int) (a1 : Int) (a2 : Int) (r : Bool) (w : World) (h : rules_within_int64.f a0 a1 a2 = some r) :
  Calls Try.prog 113 #[.int .i64 a0, .int .i64 a1, .int .i64 a2] w fun e w' => e = .returned (.bool r) ∧ Drawn0 w w' := by
 have H : (if a0 ≥ a1 then (some (decide (a0 ≤ a2))) else (some false)) = some r := h
 clear h
 by_cases c4 : a0 ≥ a1
 ·rw [if_pos c4] at H
  have c4b0 : decide (a1 ≤ a0) = true := decide_eq_true c4
  clear c4
  obtain rfl := Option.some.inj H
  go_enter Try.func113, Try.ntmps113
  go_wp2
  go_ret
  exact ⟨by first | rfl | (simp; done) | (simp [*]; done), by repeat (first | exact Drawn0.refl _ | apply Drawn0.step)⟩
 ·rw [if_neg c4] at H
  have c4b0 : decide (a1 ≤ a0) = false := decide_eq_false c4
  clear c4
  obtain rfl := Option.some.inj H
  go_enter Try.func113, Try.ntmps113
  go_wp2
  go_ret
  exact ⟨by first | rfl | (simp; done) | (simp [*]; done), by repeat (first | exact Drawn0.refl _ | apply Drawn0.step)⟩

/-! ### rules_Symbol_right: function 91 -/
def rules_Symbol_right.f (a0_0 : Int) (a0_1 : Int) (a0_2 : Int) (a0_3 : Nat) : Option (Bool) := (rules_within_int64.f a0_0 1 1099511627776).bind fun t213 => (if t213 = true then ((rules_within_int64.f a0_1 1 1099511627776).bind fun t214 => (if t214 = true then (if a0_2 ≥ 0 then ((band_Right.f a0_3).bind fun t215 => (some t215)) else (some false)) else (some false))) else (some false))
set_option maxHeartbeats 8000000 in
set_option maxRecDepth 100000 in
theorem rules_Symbol_right.calls (a0_0 : Int) (a0_1 : Int) (a0_2 : Int) (a0_3 : Nat) (r : Bool) (w : World) (h : rules_Symbol_right.f a0_0 a0_1 a0_2 a0_3 = some r) :
  Calls Try.prog 91 #[.agg #[.int .i64 a0_0, .int .i64 a0_1, .int .i64 a0_2, .float .f64 a0_3]] w fun e w' => e = .returned (.bool r) ∧ Below w.heap.size w w' := by
 have hu147 := Try.underlying147
 have HB := A0s.mk (Below.refl w.heap.size w)
 have H : ((rules_within_int64.f a0_0 1 1099511627776).bind fun t213 => (if t213 = true then ((rules_within_int64.f a0_1 1 1099511627776).bind fun t214 => (if t214 = true then (if a0_2 ≥ 0 then ((band_Right.f a0_3).bind fun t215 => (some t215)) else (some false)) else (some false))) else (some false))) = some r := h
 clear h
 replace H := Option.bind_eq_some_iff.mp H
 obtain ⟨t213, A20, H⟩ := H
 replace H : (if t213 = true then ((rules_within_int64.f a0_1 1 1099511627776).bind fun t214 => (if t214 = true then (if a0_2 ≥ 0 then ((band_Right.f a0_3).bind fun t215 => (some t215)) else (some false)) else (some false))) else (some false)) = some r := H
 have A2 := A0s.mk A20
 clear A20
 by_cases c3 : t213 = true
 ·subst c3
  have H1 : ((rules_within_int64.f a0_1 1 1099511627776).bind fun t214 => (if t214 = true then (if a0_2 ≥ 0 then ((band_Right.f a0_3).bind fun t215 => (some t215)) else (some false)) else (some false))) = some r := by rw [if_pos rfl] at H; exact H
  clear H
  have H := H1
  clear H1
  replace H := Option.bind_eq_some_iff.mp H
  obtain ⟨t214, A40, H⟩ := H
  replace H : (if t214 = true then (if a0_2 ≥ 0 then ((band_Right.f a0_3).bind fun t215 => (some t215)) else (some false)) else (some false)) = some r := H
  have A4 := A0s.mk A40
  clear A40
  by_cases c5 : t214 = true
  ·subst c5
   have H1 : (if a0_2 ≥ 0 then ((band_Right.f a0_3).bind fun t215 => (some t215)) else (some false)) = some r := by rw [if_pos rfl] at H; exact H
   clear H
   have H := H1
   clear H1
   by_cases c6 : a0_2 ≥ 0
   ·rw [if_pos c6] at H
    have c6b0 : decide (0 ≤ a0_2) = true := decide_eq_true c6
    clear c6
    replace H := Option.bind_eq_some_iff.mp H
    obtain ⟨t215, A70, H⟩ := H
    replace H : (some t215) = some r := H
    have A7 := A0s.mk A70
    clear A70
    obtain rfl := Option.some.inj H
    go_enter Try.func91, Try.ntmps91
    go_wp2_with (first | ((with_reducible refine gate_dst (N := 1) rfl ?_); refine box_event ?hg (N := 1) ?hd (cs := #[.int .i64 a0_0, .int .i64 a0_1, .int .i64 a0_2, .float .f64 a0_3]) (t := 147) ?hr ?_; (case hd => rfl); (case hg => rfl); (case hr => first | (go_simp; done) | (go_simp; rfl)); intro gb212 hg w8 hbox hb; have n0_ := A0s.mk (below_step (by repeat (first | (with_reducible first | exact HB.out | apply bA | apply bN | apply bD) | exact HB.out)) hb); have n1_ := A0s.mk (hbox); have n2_ := A0s.mk ((by rw [hg]; exact (below_size (by repeat (first | (with_reducible first | exact HB.out | apply bA | apply bN | apply bD) | exact HB.out))) : w.heap.size ≤ gb212)); have n3_ := A0s.mk ((by rw [hg]; exact (below_size (by repeat (first | (with_reducible first | exact HB.out | apply bA | apply bN | apply bD) | exact HB.out))) : w.heap.size ≤ gb212)); clear HB; have HB := n0_; have BK212 := n1_; have GW212 := n2_; have GE212 := n3_; clear n0_ n1_ n2_ n3_; clear hb hbox hg; obtain ⟨hcz9_0, hcz9_1, hcz9_2, hcz9_3, hfz9_0, hfz9_1, hfz9_2, hfz9_3⟩ := blk_all4 BK212.out) | ((with_reducible refine gC (f := 113) rfl ?_); refine gL (some 5) rfl rfl Try.func113 (by kernel_rfl) rfl #[.int .i64 a0_0, .int .i64 1, .int .i64 1099511627776] rfl (by (try simp only [List.map_toArray, List.map_cons, List.map_nil]); first | done | rfl | (simp only [List.length_drop, List.length_take]; rfl)) ?_; (with_reducible refine (rules_within_int64.calls a0_0 1 1099511627776 true _ A2.out).mono ?_); rintro e w' ⟨rfl, ⟨nd, rfl⟩⟩; refine ⟨_, rfl, ?_⟩) | (go_at_call 113; (with_reducible refine (rules_within_int64.calls a0_1 1 1099511627776 true _ A4.out).mono ?_); rintro e w' ⟨rfl, ⟨nd, rfl⟩⟩) | (go_at_call 97; (with_reducible refine (band_Right.calls a0_3 t215 _ A7.out).mono ?_); rintro e w' ⟨rfl, ⟨nd, rfl⟩⟩))
    go_ret
    exact ⟨by first | rfl | (simp [errW_none, errW_some] <;> rfl) | (simp [*, errW_none, errW_some] <;> rfl), by repeat (first | (with_reducible first | exact HB.out | apply bA | apply bN | apply bD | refine bS ?_ GE212.out) | exact HB.out)⟩
   ·rw [if_neg c6] at H
    have c6b0 : decide (0 ≤ a0_2) = false := decide_eq_false c6
    clear c6
    obtain rfl := Option.some.inj H
    go_enter Try.func91, Try.ntmps91
    go_wp2_with (first | ((with_reducible refine gate_dst (N := 1) rfl ?_); refine box_event ?hg (N := 1) ?hd (cs := #[.int .i64 a0_0, .int .i64 a0_1, .int .i64 a0_2, .float .f64 a0_3]) (t := 147) ?hr ?_; (case hd => rfl); (case hg => rfl); (case hr => first | (go_simp; done) | (go_simp; rfl)); intro gb212 hg w10 hbox hb; have n0_ := A0s.mk (below_step (by repeat (first | (with_reducible first | exact HB.out | apply bA | apply bN | apply bD) | exact HB.out)) hb); have n1_ := A0s.mk (hbox); have n2_ := A0s.mk ((by rw [hg]; exact (below_size (by repeat (first | (with_reducible first | exact HB.out | apply bA | apply bN | apply bD) | exact HB.out))) : w.heap.size ≤ gb212)); have n3_ := A0s.mk ((by rw [hg]; exact (below_size (by repeat (first | (with_reducible first | exact HB.out | apply bA | apply bN | apply bD) | exact HB.out))) : w.heap.size ≤ gb212)); clear HB; have HB := n0_; have BK212 := n1_; have GW212 := n2_; have GE212 := n3_; clear n0_ n1_ n2_ n3_; clear hb hbox hg; obtain ⟨hcz11_0, hcz11_1, hcz11_2, hcz11_3, hfz11_0, hfz11_1, hfz11_2, hfz11_3⟩ := blk_all4 BK212.out) | ((with_reducible refine gC (f := 113) rfl ?_); refine gL (some 5) rfl rfl Try.func113 (by kernel_rfl) rfl #[.int .i64 a0_0, .int .i64 1, .int .i64 1099511627776] rfl (by (try simp only [List.map_toArray, List.map_cons, List.map_nil]); first | done | rfl | (simp only [List.length_drop, List.length_take]; rfl)) ?_; (with_reducible refine (rules_within_int64.calls a0_0 1 1099511627776 true _ A2.out).mono ?_); rintro e w' ⟨rfl, ⟨nd, rfl⟩⟩; refine ⟨_, rfl, ?_⟩) | (go_at_call 113; (with_reducible refine (rules_within_int64.calls a0_1 1 1099511627776 true _ A4.out).mono ?_); rintro e w' ⟨rfl, ⟨nd, rfl⟩⟩))
    go_ret
    exact ⟨by first | rfl | (simp [errW_none, errW_some] <;> rfl) | (simp [*, errW_none, errW_some] <;> rfl), by repeat (first | (with_reducible first | exact HB.out | apply bA | apply bN | apply bD | refine bS ?_ GE212.out) | exact HB.out)⟩
  ·replace c5 := Bool.eq_false_iff.mpr c5
   subst c5
   have H1 : (some false) = some r := by rw [if_neg (show ¬ (false = true) by decide)] at H; exact H
   clear H
   have H := H1
   clear H1
   obtain rfl := Option.some.inj H
   go_enter Try.func91, Try.ntmps91
   go_wp2_with (first | ((with_reducible refine gate_dst (N := 1) rfl ?_); refine box_event ?hg (N := 1) ?hd (cs := #[.int .i64 a0_0, .int .i64 a0_1, .int .i64 a0_2, .float .f64 a0_3]) (t := 147) ?hr ?_; (case hd => rfl); (case hg => rfl); (case hr => first | (go_simp; done) | (go_simp; rfl)); intro gb212 hg w12 hbox hb; have n0_ := A0s.mk (below_step (by repeat (first | (with_reducible first | exact HB.out | apply bA | apply bN | apply bD) | exact HB.out)) hb); have n1_ := A0s.mk (hbox); have n2_ := A0s.mk ((by rw [hg]; exact (below_size (by repeat (first | (with_reducible first | exact HB.out | apply bA | apply bN | apply bD) | exact HB.out))) : w.heap.size ≤ gb212)); have n3_ := A0s.mk ((by rw [hg]; exact (below_size (by repeat (first | (with_reducible first | exact HB.out | apply bA | apply bN | apply bD) | exact HB.out))) : w.heap.size ≤ gb212)); clear HB; have HB := n0_; have BK212 := n1_; have GW212 := n2_; have GE212 := n3_; clear n0_ n1_ n2_ n3_; clear hb hbox hg; obtain ⟨hcz13_0, hcz13_1, hcz13_2, hcz13_3, hfz13_0, hfz13_1, hfz13_2, hfz13_3⟩ := blk_all4 BK212.out) | ((with_reducible refine gC (f := 113) rfl ?_); refine gL (some 5) rfl rfl Try.func113 (by kernel_rfl) rfl #[.int .i64 a0_0, .int .i64 1, .int .i64 1099511627776] rfl (by (try simp only [List.map_toArray, List.map_cons, List.map_nil]); first | done | rfl | (simp only [List.length_drop, List.length_take]; rfl)) ?_; (with_reducible refine (rules_within_int64.calls a0_0 1 1099511627776 true _ A2.out).mono ?_); rintro e w' ⟨rfl, ⟨nd, rfl⟩⟩; refine ⟨_, rfl, ?_⟩) | (go_at_call 113; (with_reducible refine (rules_within_int64.calls a0_1 1 1099511627776 false _ A4.out).mono ?_); rintro e w' ⟨rfl, ⟨nd, rfl⟩⟩))
   go_ret
   exact ⟨by first | rfl | (simp [errW_none, errW_some] <;> rfl) | (simp [*, errW_none, errW_some] <;> rfl), by repeat (first | (with_reducible first | exact HB.out | apply bA | apply bN | apply bD | refine bS ?_ GE212.out) | exact HB.out)⟩
 ·replace c3 := Bool.eq_false_iff.mpr c3
  subst c3
  have H1 : (some false) = some r := by rw [if_neg (show ¬ (false = true) by decide)] at H; exact H
  clear H
  have H := H1
  clear H1
  obtain rfl := Option.some.inj H
  go_enter Try.func91, Try.ntmps91
  go_wp2_with (first | ((with_reducible refine gate_dst (N := 1) rfl ?_); refine box_event ?hg (N := 1) ?hd (cs := #[.int .i64 a0_0, .int .i64 a0_1, .int .i64 a0_2, .float .f64 a0_3]) (t := 147) ?hr ?_; (case hd => rfl); (case hg => rfl); (case hr => first | (go_simp; done) | (go_simp; rfl)); intro gb212 hg w14 hbox hb; have n0_ := A0s.mk (below_step (by repeat (first | (with_reducible first | exact HB.out | apply bA | apply bN | apply bD) | exact HB.out)) hb); have n1_ := A0s.mk (hbox); have n2_ := A0s.mk ((by rw [hg]; exact (below_size (by repeat (first | (with_reducible first | exact HB.out | apply bA | apply bN | apply bD) | exact HB.out))) : w.heap.size ≤ gb212)); have n3_ := A0s.mk ((by rw [hg]; exact (below_size (by repeat (first | (with_reducible first | exact HB.out | apply bA | apply bN | apply bD) | exact HB.out))) : w.heap.size ≤ gb212)); clear HB; have HB := n0_; have BK212 := n1_; have GW212 := n2_; have GE212 := n3_; clear n0_ n1_ n2_ n3_; clear hb hbox hg; obtain ⟨hcz15_0, hcz15_1, hcz15_2, hcz15_3, hfz15_0, hfz15_1, hfz15_2, hfz15_3⟩ := blk_all4 BK212.out) | ((with_reducible refine gC (f := 113) rfl ?_); refine gL (some 5) rfl rfl Try.func113 (by kernel_rfl) rfl #[.int .i64 a0_0, .int .i64 1, .int .i64 1099511627776] rfl (by (try simp only [List.map_toArray, List.map_cons, List.map_nil]); first | done | rfl | (simp only [List.length_drop, List.length_take]; rfl)) ?_; (with_reducible refine (rules_within_int64.calls a0_0 1 1099511627776 false _ A2.out).mono ?_); rintro e w' ⟨rfl, ⟨nd, rfl⟩⟩; refine ⟨_, rfl, ?_⟩))
  go_ret
  exact ⟨by first | rfl | (simp [errW_none, errW_some] <;> rfl) | (simp [*, errW_none, errW_some] <;> rfl), by repeat (first | (with_reducible first | exact HB.out | apply bA | apply bN | apply bD | refine bS ?_ GE212.out) | exact HB.out)⟩

/-! ### rules_Check_2: function 90 -/
def rules_Check_2.f (a0_0 : Int) (a0_1 : Int) (a0_2 : Int) (a0_3 : Nat) : Option (Bool) := (rules_Symbol_right.f a0_0 a0_1 a0_2 a0_3).bind fun t217 => (some (!t217))
set_option maxHeartbeats 8000000 in
set_option maxRecDepth 100000 in
theorem rules_Check_2.calls (a0_0 : Int) (a0_1 : Int) (a0_2 : Int) (a0_3 : Nat) (r : Bool) (w : World) (h : rules_Check_2.f a0_0 a0_1 a0_2 a0_3 = some r) :
  Calls Try.prog 90 #[.agg #[.int .i64 a0_0, .int .i64 a0_1, .int .i64 a0_2, .float .f64 a0_3]] w fun e w' => e = .returned (.bool r) ∧ Below w.heap.size w w' := by
 have hu147 := Try.underlying147
 have HB := A0s.mk (Below.refl w.heap.size w)
 have H : ((rules_Symbol_right.f a0_0 a0_1 a0_2 a0_3).bind fun t217 => (some (!t217))) = some r := h
 clear h
 replace H := Option.bind_eq_some_iff.mp H
 obtain ⟨t217, A20, H⟩ := H
 replace H : (some (!t217)) = some r := H
 have A2 := A0s.mk A20
 clear A20
 obtain rfl := Option.some.inj H
 go_enter Try.func90, Try.ntmps90
 go_wp2_with (first | ((with_reducible refine gate_dst (N := 1) rfl ?_); refine box_event ?hg (N := 1) ?hd (cs := #[.int .i64 a0_0, .int .i64 a0_1, .int .i64 a0_2, .float .f64 a0_3]) (t := 147) ?hr ?_; (case hd => rfl); (case hg => rfl); (case hr => first | (go_simp; done) | (go_simp; rfl)); intro gb216 hg w3 hbox hb; have n0_ := A0s.mk (below_step (by repeat (first | (with_reducible first | exact HB.out | apply bA | apply bN | apply bD) | exact HB.out)) hb); have n1_ := A0s.mk (hbox); have n2_ := A0s.mk ((by rw [hg]; exact (below_size (by repeat (first | (with_reducible first | exact HB.out | apply bA | apply bN | apply bD) | exact HB.out))) : w.heap.size ≤ gb216)); have n3_ := A0s.mk ((by rw [hg]; exact (below_size (by repeat (first | (with_reducible first | exact HB.out | apply bA | apply bN | apply bD) | exact HB.out))) : w.heap.size ≤ gb216)); clear HB; have HB := n0_; have BK216 := n1_; have GW216 := n2_; have GE216 := n3_; clear n0_ n1_ n2_ n3_; clear hb hbox hg; obtain ⟨hcz4_0, hcz4_1, hcz4_2, hcz4_3, hfz4_0, hfz4_1, hfz4_2, hfz4_3⟩ := blk_all4 BK216.out) | ((with_reducible refine gC (f := 91) rfl ?_); refine gL (some 4) rfl rfl Try.func91 (by kernel_rfl) rfl #[.agg #[.int .i64 a0_0, .int .i64 a0_1, .int .i64 a0_2, .float .f64 a0_3]] rfl (by (try simp only [List.map_toArray, List.map_cons, List.map_nil]); first | done | rfl | (simp only [List.length_drop, List.length_take]; rfl)) ?_; (with_reducible refine (rules_Symbol_right.calls a0_0 a0_1 a0_2 a0_3 t217 _ A2.out).mono ?_); rintro e w5 ⟨rfl, hb⟩; refine ⟨_, rfl, ?_⟩; have n0_ := A0s.mk (blk_below (g := gb216) (o := .cells #[.int .i64 a0_0, .int .i64 a0_1, .int .i64 a0_2, .float .f64 a0_3] 147 (0, 0)) (by (with_reducible repeat (first | apply kN | apply kD | apply kA)); exact BK216.out) hb); have n1_ := A0s.mk (below_step (by repeat (first | (with_reducible first | exact HB.out | apply bA | apply bN | apply bD | refine bS ?_ GE216.out) | exact HB.out)) hb); clear BK216; clear HB; have BK216 := n0_; have HB := n1_; clear n0_ n1_; (try clear hb); (try clear hb2); (try clear hk); (try clear hi)))
 go_ret
 exact ⟨by first | rfl | (simp [errW_none, errW_some] <;> rfl) | (simp [*, errW_none, errW_some] <;> rfl), by repeat (first | (with_reducible first | exact HB.out | apply bA | apply bN | apply bD | refine bS ?_ GE216.out) | exact HB.out)⟩

/-! ### rules_Symbol_112: function 112 -/
def rules_Symbol_112.l0 : Nat → List (S147) → Int → Int → Option (Int)
 | 0, _, _, _ => none
 | k + 1, x0, x7, x8 => if x8 < x7 then (if 0 ≤ x8 then (if x8 < (x0.length : Int) then ((rules_Check_2.f ((rd_T147 x0 x8).f0) ((rd_T147 x0 x8).f1) ((rd_T147 x0 x8).f2) ((rd_T147 x0 x8).f3)).bind fun t219 => (if t219 = true then (some x8) else (rules_Symbol_112.l0 k x0 x7 (wrap64 (x8 + 1))))) else (none)) else (none)) else (some (-1))
def rules_Symbol_112.f (k : Nat) (l0 : List (S147))  : Option (Int) := rules_Symbol_112.l0 k l0 (l0.length : Int) 0
theorem rules_Symbol_112.mono_l : ∀ k, (∀ y0 y1 y2, LeO (rules_Symbol_112.l0 k y0 y1 y2) (rules_Symbol_112.l0 (k + 1) y0 y1 y2))
 | 0 => fun _ _ _ r h => by simp [rules_Symbol_112.l0] at h
 | k + 1 => by
  have ih0 := rules_Symbol_112.mono_l k
  ·intro y0 y1 y2
   unfold rules_Symbol_112.l0
   repeat' first
   | (with_reducible exact ih0 _ _ _)
   | (with_reducible exact LeO.refl _)
   | (with_reducible exact LeO.none _)
   | (with_reducible refine LeO.ite ?_ ?_)
   | (with_reducible refine LeO.bind ?_ (fun _ => ?_))
   | exact ih0 _ _ _
   | exact LeO.none _
   | refine LeO.ite ?_ ?_
   | refine LeO.bind ?_ (fun _ => ?_)
theorem rules_Symbol_112.mono : ∀ a0 k, LeO (rules_Symbol_112.f k a0) (rules_Symbol_112.f (k + 1) a0) := by
 intro a0 k
 have ih0 := rules_Symbol_112.mono_l k
 unfold rules_Symbol_112.f
 repeat' first
   | (with_reducible exact ih0 _ _ _)
   | (with_reducible exact LeO.refl _)
   | (with_reducible exact LeO.none _)
   | (with_reducible refine LeO.ite ?_ ?_)
   | (with_reducible refine LeO.bind ?_ (fun _ => ?_))
   | exact ih0 _ _ _
   | exact LeO.none _
   | refine LeO.ite ?_ ?_
   | refine LeO.bind ?_ (fun _ => ?_)
set_option maxHeartbeats 8000000 in
set_option maxRecDepth 100000 in
theorem rules_Symbol_112.calls (k : Nat) (A0 : Option Addr) (c0 : Nat) (l0 : List (S147))  (r : Int) (w : World) (hr0 : Kd.C k147 w A0 l0.length l0) (hc0 : l0.length ≤ c0) (h : rules_Symbol_112.f k l0 = some r) :
  Calls Try.prog 112 #[.slice A0 l0.length c0, .func (.func 90) #[] #[]] w fun e w' => e = .returned (.int .i64 r) ∧ Below w.heap.size w w' := by
 have hu147 := Try.underlying147
 have HR0 := A0s.mk hr0
 have HC0 := A0s.mk hc0
 clear hr0 hc0
 have HB := A0s.mk (Below.refl w.heap.size w)
 have H : (rules_Symbol_112.l0 k l0 (l0.length : Int) 0) = some r := h
 clear h
 have H' := A0s.mk H
 clear H
 go_enter Try.func112, Try.ntmps112
 go_wp2
 go_loopg [8] k (fun kq v8 w' => ∃ (x8_1 : Int), v8 = .int .i64 x8_1 ∧ A0s (rules_Symbol_112.l0 kq l0 (l0.length : Int) x8_1 = some r) ∧ A0s (kq ≤ k) ∧ A0s (Below w.heap.size w w'))
 case atStart => exact ⟨(0), (by first | rfl | (simp; done) | (simp [*]; done)), H', ⟨Nat.le_refl _⟩, ⟨by repeat (first | (with_reducible first | exact HB.out | apply bA | apply bN | apply bD) | exact HB.out)⟩⟩
 case round =>
  clear H'
  try clear c1
  try clear p2
  obtain ⟨x8_1, rfl, HA, HK1, HB⟩ := hrel
  cases gk with
  | zero => exact absurd HA.out (by simp [rules_Symbol_112.l0])
  | succ k1 =>
   have H := HA.out
   clear HA
   simp only [rules_Symbol_112.l0] at H
   by_cases c3 : x8_1 < (l0.length : Int)
   ·rw [if_pos c3] at H
    have c3b0 : decide (x8_1 < (l0.length : Int)) = true := decide_eq_true c3
    clear c3
    by_cases c4 : 0 ≤ x8_1
    ·rw [if_pos c4] at H
     have c4b0 : decide (0 ≤ x8_1) = true := decide_eq_true c4
     clear c4
     by_cases c5 : x8_1 < (l0.length : Int)
     ·rw [if_pos c5] at H
      have c5b0 : decide (x8_1 < (l0.length : Int)) = true := decide_eq_true c5
      clear c5
      replace H := Option.bind_eq_some_iff.mp H
      obtain ⟨t219, A60, H⟩ := H
      replace H : (if t219 = true then (some x8_1) else (rules_Symbol_112.l0 k1 l0 (l0.length : Int) (wrap64 (x8_1 + 1)))) = some r := H
      have A6 := A0s.mk A60
      clear A60
      by_cases c7 : t219 = true
      ·subst c7
       have H1 : (some x8_1) = some r := by rw [if_pos rfl] at H; exact H
       clear H
       have H := H1
       clear H1
       obtain rfl := Option.some.inj H
       have p218 : 0 ≤ (x8_1 : Int) := of_decide_eq_true (by first | (with_reducible assumption) | assumption)
       have q218 : x8_1 < (l0.length : Int) := of_decide_eq_true (by first | (with_reducible assumption) | assumption)
       obtain ⟨ad218, e218, hx218_0, hx218_1, hx218_2, hx218_3⟩ := at_T147 HR0.out x8_1 p218 q218
       cases e218
       replace hx218_0 := (HB.out.cell (World.block_lt_of_cell? w _ hx218_0)).trans hx218_0
       replace hx218_1 := (HB.out.cell (World.block_lt_of_cell? w _ hx218_1)).trans hx218_1
       replace hx218_2 := (HB.out.cell (World.block_lt_of_cell? w _ hx218_2)).trans hx218_2
       replace hx218_3 := (HB.out.cell (World.block_lt_of_cell? w _ hx218_3)).trans hx218_3
       replace p218 := eq_true p218
       replace q218 := eq_true q218
       go_wp2_with (first | (go_at_call 90; (with_reducible refine (rules_Check_2.calls ((rd_T147 l0 x8_1).f0) ((rd_T147 l0 x8_1).f1) ((rd_T147 l0 x8_1).f2) ((rd_T147 l0 x8_1).f3) true _ A6.out).mono ?_); rintro e w8 ⟨rfl, hb⟩; have n0_ := A0s.mk (below_step (by repeat (first | (with_reducible first | exact HB.out | apply bA | apply bN | apply bD) | exact HB.out)) hb); clear HB; have HB := n0_; clear n0_; (try clear hb); (try clear hb2); (try clear hk); (try clear hi)))
       go_ret
       exact ⟨by first | rfl | (simp [errW_none, errW_some] <;> rfl) | (simp [*, errW_none, errW_some] <;> rfl), by repeat (first | (with_reducible first | exact HB.out | apply bA | apply bN | apply bD) | exact HB.out)⟩
      ·replace c7 := Bool.eq_false_iff.mpr c7
       subst c7
       have H1 : (rules_Symbol_112.l0 k1 l0 (l0.length : Int) (wrap64 (x8_1 + 1))) = some r := by rw [if_neg (show ¬ (false = true) by decide)] at H; exact H
       clear H
       have H := H1
       clear H1
       have H' := A0s.mk H
       clear H
       have p218 : 0 ≤ (x8_1 : Int) := of_decide_eq_true (by first | (with_reducible assumption) | assumption)
       have q218 : x8_1 < (l0.length : Int) := of_decide_eq_true (by first | (with_reducible assumption) | assumption)
       obtain ⟨ad218, e218, hx218_0, hx218_1, hx218_2, hx218_3⟩ := at_T147 HR0.out x8_1 p218 q218
       cases e218
       replace hx218_0 := (HB.out.cell (World.block_lt_of_cell? w _ hx218_0)).trans hx218_0
       replace hx218_1 := (HB.out.cell (World.block_lt_of_cell? w _ hx218_1)).trans hx218_1
       replace hx218_2 := (HB.out.cell (World.block_lt_of_cell? w _ hx218_2)).trans hx218_2
       replace hx218_3 := (HB.out.cell (World.block_lt_of_cell? w _ hx218_3)).trans hx218_3
       replace p218 := eq_true p218
       replace q218 := eq_true q218
       go_wp2_with (first | (go_at_call 90; (with_reducible refine (rules_Check_2.calls ((rd_T147 l0 x8_1).f0) ((rd_T147 l0 x8_1).f1) ((rd_T147 l0 x8_1).f2) ((rd_T147 l0 x8_1).f3) false _ A6.out).mono ?_); rintro e w9 ⟨rfl, hb⟩; have n0_ := A0s.mk (below_step (by repeat (first | (with_reducible first | exact HB.out | apply bA | apply bN | apply bD) | exact HB.out)) hb); clear HB; have HB := n0_; clear n0_; (try clear hb); (try clear hb2); (try clear hk); (try clear hi)))
       go_roundg k1
       case measure => have := HK1.out; omega
       case rel => exact ⟨(wrap64 (x8_1 + 1)), (by first | rfl | (simp; done) | (simp [*]; done)), H', ⟨by have := HK1.out; omega⟩, ⟨by repeat (first | (with_reducible first | exact HB.out | apply bA | apply bN | apply bD) | exact HB.out)⟩⟩
     ·rw [if_neg c5] at H
      exact absurd H (by simp)
    ·rw [if_neg c4] at H
     exact absurd H (by simp)
   ·rw [if_neg c3] at H
    have c3b0 : decide (x8_1 < (l0.length : Int)) = false := decide_eq_false c3
    clear c3
    obtain rfl := Option.some.inj H
    go_wp2
    go_ret
    exact ⟨by first | rfl | (simp [errW_none, errW_some] <;> rfl) | (simp [*, errW_none, errW_some] <;> rfl), by repeat (first | (with_reducible first | exact HB.out | apply bA | apply bN | apply bD) | exact HB.out)⟩

end Go.Proofs.Ytgikjgekdeaneaa.QRulesLooks
