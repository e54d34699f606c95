/- Printed by wip/gen/myprint.py, a program of this session, for this claim: functions of the program as Lean functions, each with a proof that the Go code comes to its answers. -/
import Derived.Test.YtnodcekkbbmfnaaQCrBx0
import Derived.Test.YtnodcekkbbmfnaaQCrBx2
namespace Go.Proofs.Ytnodcekkbbmfnaa.QCrB
open Go.RowKit Go.Proofs.YtnodcekkbbmfnaaW.PrintWords Go.Proofs.YtnodcekkbbmfnaaW.PrintLast Go.Proofs.YtnodcekkbbmfnaaW.PrintMore
attribute [local go_sem] max2_int min2_int max_two min_two max_three min_three max_four min_four   -- for this text's walks alone
set_option linter.unusedVariables false
set_option linter.unusedSimpArgs false

/-! ### stopgateref03_Fix: function 28 -/
mutual
def stopgateref03_Fix.l0 : Nat → List (S68) → List (S68) → Int → Option ((List (S68)))
 | 0, _, _, _ => none
 | k + 1, x0, x3, x4 => if x4 < (x0.length : Int) then (stopgateref03_Fix.j1 k x0 x3 x4 (decide (x4 < 10))) else (stopgateref03_Fix.j1 k x0 x3 x4 false)
def stopgateref03_Fix.j1 : Nat → List (S68) → List (S68) → Int → Bool → Option ((List (S68)))
 | 0, _, _, _, _ => none
 | k + 1, x0, x3, x4, x13 => if x13 = true then (if 0 ≤ x4 then (if x4 < (x0.length : Int) then (if x4 > 0 then (stopgateref03_Fix.j2 k x0 x3 x4 (decide (((rd_T68 x0 x4).f0) ≥ 0)) (-1) (wrap64 (Int.tmod (IntKind.u64.wrap ((rd_T68 x0 x4).f1)) 4611686018427387905))) else (stopgateref03_Fix.j2 k x0 x3 x4 false (-1) (wrap64 (Int.tmod (IntKind.u64.wrap ((rd_T68 x0 x4).f1)) 4611686018427387905)))) else (none)) else (none)) else (if (x3.length : Int) = 0 then (some (([(⟨(-1), 1000⟩ : S68)] : List (S68)))) else (some x3))
def stopgateref03_Fix.j2 : Nat → List (S68) → List (S68) → Int → Bool → Int → Int → Option ((List (S68)))
 | 0, _, _, _, _, _, _ => none
 | k + 1, x0, x3, x4, x34, x119000, x119001 => if x34 = true then (if 0 ≤ x4 then (if x4 < (x0.length : Int) then (if x4 = 0 then (none) else ((stopgateref03_Path.f k x3 (Int.tmod ((rd_T68 x0 x4).f0) x4)).bind fun t121 => (if (t121.length : Int) ≥ 3 then (if x3.length < 8796093022208 then (stopgateref03_Fix.l0 k x0 (x3 ++ [(⟨(-1), x119001⟩ : S68)]) (wrap64 (x4 + 1))) else (none)) else (if x3.length < 8796093022208 then (stopgateref03_Fix.l0 k x0 (x3 ++ [(⟨Int.tmod ((rd_T68 x0 x4).f0) x4, x119001⟩ : S68)]) (wrap64 (x4 + 1))) else (none))))) else (none)) else (none)) else (if x3.length < 8796093022208 then (stopgateref03_Fix.l0 k x0 (x3 ++ [(⟨x119000, x119001⟩ : S68)]) (wrap64 (x4 + 1))) else (none))
end
def stopgateref03_Fix.f (k : Nat) (l0 : List (S68)) : Option ((List (S68))) := stopgateref03_Fix.l0 k l0 ([] : List (S68)) 0
theorem stopgateref03_Fix.mono_l : ∀ k, (∀ y0 y1 y2, LeO (stopgateref03_Fix.l0 k y0 y1 y2) (stopgateref03_Fix.l0 (k + 1) y0 y1 y2)) ∧ (∀ y0 y1 y2 y3, LeO (stopgateref03_Fix.j1 k y0 y1 y2 y3) (stopgateref03_Fix.j1 (k + 1) y0 y1 y2 y3)) ∧ (∀ y0 y1 y2 y3 y4 y5, LeO (stopgateref03_Fix.j2 k y0 y1 y2 y3 y4 y5) (stopgateref03_Fix.j2 (k + 1) y0 y1 y2 y3 y4 y5))
 | 0 => ⟨fun _ _ _ r h => by simp [stopgateref03_Fix.l0] at h, fun _ _ _ _ r h => by simp [stopgateref03_Fix.j1] at h, fun _ _ _ _ _ _ r h => by simp [stopgateref03_Fix.j2] at h⟩
 | k + 1 => by
  obtain ⟨ih0, ih1, ih2⟩ := stopgateref03_Fix.mono_l k
  refine ⟨?_, ?_, ?_⟩
  ·intro y0 y1 y2
   unfold stopgateref03_Fix.l0
   repeat' first
   | (with_reducible exact ih0 _ _ _)
   | (with_reducible exact ih1 _ _ _ _)
   | (with_reducible exact ih2 _ _ _ _ _ _)
   | (with_reducible exact stopgateref03_Path.mono _ _ _)
   | (with_reducible exact LeO.refl _)
   | (with_reducible exact LeO.none _)
   | (with_reducible refine LeO.ite ?_ ?_)
   | (with_reducible refine LeO.bind ?_ (fun _ => ?_))
   | exact ih0 _ _ _
   | exact ih1 _ _ _ _
   | exact ih2 _ _ _ _ _ _
   | exact stopgateref03_Path.mono _ _ _
   | exact LeO.none _
   | refine LeO.ite ?_ ?_
   | refine LeO.bind ?_ (fun _ => ?_)
  ·intro y0 y1 y2 y3
   unfold stopgateref03_Fix.j1
   repeat' first
   | (with_reducible exact ih0 _ _ _)
   | (with_reducible exact ih1 _ _ _ _)
   | (with_reducible exact ih2 _ _ _ _ _ _)
   | (with_reducible exact stopgateref03_Path.mono _ _ _)
   | (with_reducible exact LeO.refl _)
   | (with_reducible exact LeO.none _)
   | (with_reducible refine LeO.ite ?_ ?_)
   | (with_reducible refine LeO.bind ?_ (fun _ => ?_))
   | exact ih0 _ _ _
   | exact ih1 _ _ _ _
   | exact ih2 _ _ _ _ _ _
   | exact stopgateref03_Path.mono _ _ _
   | exact LeO.none _
   | refine LeO.ite ?_ ?_
   | refine LeO.bind ?_ (fun _ => ?_)
  ·intro y0 y1 y2 y3 y4 y5
   unfold stopgateref03_Fix.j2
   repeat' first
   | (with_reducible exact ih0 _ _ _)
   | (with_reducible exact ih1 _ _ _ _)
   | (with_reducible exact ih2 _ _ _ _ _ _)
   | (with_reducible exact stopgateref03_Path.mono _ _ _)
   | (with_reducible exact LeO.refl _)
   | (with_reducible exact LeO.none _)
   | (with_reducible refine LeO.ite ?_ ?_)
   | (with_reducible refine LeO.bind ?_ (fun _ => ?_))
   | exact ih0 _ _ _
   | exact ih1 _ _ _ _
   | exact ih2 _ _ _ _ _ _
   | exact stopgateref03_Path.mono _ _ _
   | exact LeO.none _
   | refine LeO.ite ?_ ?_
   | refine LeO.bind ?_ (fun _ => ?_)
theorem stopgateref03_Fix.mono : ∀ a0 k, LeO (stopgateref03_Fix.f k a0) (stopgateref03_Fix.f (k + 1) a0) := by
 intro a0 k
 obtain ⟨ih0, ih1, ih2⟩ := stopgateref03_Fix.mono_l k
 unfold stopgateref03_Fix.f
 repeat' first
   | (with_reducible exact ih0 _ _ _)
   | (with_reducible exact ih1 _ _ _ _)
   | (with_reducible exact ih2 _ _ _ _ _ _)
   | (with_reducible exact stopgateref03_Path.mono _ _ _)
   | (with_reducible exact LeO.refl _)
   | (with_reducible exact LeO.none _)
   | (with_reducible refine LeO.ite ?_ ?_)
   | (with_reducible refine LeO.bind ?_ (fun _ => ?_))
   | exact ih0 _ _ _
   | exact ih1 _ _ _ _
   | exact ih2 _ _ _ _ _ _
   | exact stopgateref03_Path.mono _ _ _
   | exact LeO.none _
   | refine LeO.ite ?_ ?_
   | refine LeO.bind ?_ (fun _ => ?_)
set_option maxHeartbeats 8000000 in
set_option maxRecDepth 100000 in
theorem stopgateref03_Fix.calls (k : Nat) (A0 : Option Addr) (c0 : Nat) (l0 : List (S68)) (r : List (S68)) (w : World) (hr0 : Kd.C k68 w A0 l0.length l0) (hc0 : l0.length ≤ c0) (h : stopgateref03_Fix.f k l0 = some r) :
  Calls Try.prog 28 #[.slice A0 l0.length c0] w fun e w' => ∃ v0_ : Value, e = .returned (v0_) ∧ Kd.R k68 68 w' w.heap.size (fun _ => True) v0_ r ∧ Below w.heap.size w w' := by
 have hu68 := Try.underlying68
 have HR0 := Aside0.mk hr0
 have HC0 := Aside0.mk hc0
 clear hr0 hc0
 have HB := Aside0.mk (Below.refl w.heap.size w)
 have H : (stopgateref03_Fix.l0 k l0 ([] : List (S68)) 0) = some r := h
 clear h
 have H' := Aside0.mk H
 clear H
 go_enter Try.func28, Try.ntmps28
 go_wp2
 go_loopg [3, 4] k (fun kq v3 v4 w' => ∃ (x3_1 : List (S68)) (x4_1 : Int), v4 = .int .i64 x4_1 ∧ Aside0 (stopgateref03_Fix.l0 kq l0 x3_1 x4_1 = some r) ∧ Aside0 (kq ≤ k) ∧ Aside0 (Kd.R k68 68 w' w.heap.size (fun _ => True) v3 x3_1) ∧ Aside0 (Below w.heap.size w w'))
 case atStart => exact ⟨(([] : List (S68))), (0), (by first | rfl | (simp; done) | (simp [*]; done)), H', ⟨Nat.le_refl _⟩, ⟨by first | exact Kd.R_nil _ _ _ _ _ | exact Kd.N_nil _ _ _ _ _ | exact Kd.V_nil _ _ _ _ _ | exact Kd.Q_nil _ _ _ _ _ | exact Kd.S_nil _ _ _ _ _⟩, ⟨by repeat (first | (with_reducible first | exact HB.out | apply below_alloc | apply pw_below_drewN | apply below_drew1) | exact HB.out)⟩⟩
 case round =>
  clear H'
  obtain ⟨x3_1, x4_1, rfl, HA, HK1, HO_3, HB⟩ := hrel
  cases gk with
  | zero => exact absurd HA.out (by simp [stopgateref03_Fix.l0])
  | succ k1 =>
   have H := HA.out
   clear HA
   simp only [stopgateref03_Fix.l0] at H
   have HC2 := Aside0.mk H
   clear H
   go_upto_region 3 with (fail)
   go_cut [13] (fun v13 wc => ∃ (kq : Nat) (x13_1 : Bool), v13 = .bool x13_1 ∧ Aside0 (stopgateref03_Fix.j1 kq l0 x3_1 x4_1 x13_1 = some r) ∧ Aside0 (kq ≤ k1) ∧ Aside0 (Kd.R k68 68 wc w.heap.size (fun _ => True) u3 x3_1) ∧ Aside0 (Below w.heap.size w wc))
   case first =>
    have H := HC2.out
    clear HC2
    by_cases c3 : x4_1 < (l0.length : Int)
    ·rw [if_pos c3] at H
     have c3b0 : decide (x4_1 < (l0.length : Int)) = true := decide_eq_true c3
     clear c3
     (first | rw [c3b0] | (simp only [i64_w, i32_w]; rw [c3b0]) | skip)
     have H' := Aside0.mk H
     clear H
     go_wp2
     go_meet
     case rel => exact ⟨_, (decide (x4_1 < 10)), (by first | rfl | (simp; done) | (simp [*]; done)), H', ⟨by have := HK1.out; first | omega | exact Nat.le_refl _⟩, ⟨by (with_reducible repeat (first | apply Kd.R_alloc | apply Kd.R_drewN | apply Kd.R_drew)); exact HO_3.out⟩, ⟨by repeat (first | (with_reducible first | exact HB.out | apply below_alloc | apply pw_below_drewN | apply below_drew1) | exact HB.out)⟩⟩
    ·rw [if_neg c3] at H
     have c3b0 : decide (x4_1 < (l0.length : Int)) = false := decide_eq_false c3
     clear c3
     (first | rw [c3b0] | (simp only [i64_w, i32_w]; rw [c3b0]) | skip)
     have H' := Aside0.mk H
     clear H
     go_wp2
     go_meet
     case rel => exact ⟨_, (false), (by first | rfl | (simp; done) | (simp [*]; done)), H', ⟨by have := HK1.out; first | omega | exact Nat.le_refl _⟩, ⟨by (with_reducible repeat (first | apply Kd.R_alloc | apply Kd.R_drewN | apply Kd.R_drew)); exact HO_3.out⟩, ⟨by repeat (first | (with_reducible first | exact HB.out | apply below_alloc | apply pw_below_drewN | apply below_drew1) | exact HB.out)⟩⟩
   case rest =>
    clear HC2
    try clear c2
    try clear p2
    try clear c3
    try clear c3b0
    obtain ⟨kq, x13_1, rfl, HA, HJ1, HO_3, HB⟩ := hcut
    cases kq with
    | zero => exact absurd HA.out (by simp [stopgateref03_Fix.j1])
    | succ kj1 =>
     have H := HA.out
     clear HA
     simp only [stopgateref03_Fix.j1] at H
     by_cases c4 : x13_1 = true
     ·subst c4
      have H1 : (if 0 ≤ x4_1 then (if x4_1 < (l0.length : Int) then (if x4_1 > 0 then (stopgateref03_Fix.j2 kj1 l0 x3_1 x4_1 (decide (((rd_T68 l0 x4_1).f0) ≥ 0)) (-1) (wrap64 (Int.tmod (IntKind.u64.wrap ((rd_T68 l0 x4_1).f1)) 4611686018427387905))) else (stopgateref03_Fix.j2 kj1 l0 x3_1 x4_1 false (-1) (wrap64 (Int.tmod (IntKind.u64.wrap ((rd_T68 l0 x4_1).f1)) 4611686018427387905)))) else (none)) else (none)) = some r := by rw [if_pos rfl] at H; exact H
      clear H
      have H := H1
      clear H1
      by_cases c5 : 0 ≤ x4_1
      ·rw [if_pos c5] at H
       have c5b0 : decide (0 ≤ x4_1) = true := decide_eq_true c5
       clear c5
       by_cases c6 : x4_1 < (l0.length : Int)
       ·rw [if_pos c6] at H
        have c6b0 : decide (x4_1 < (l0.length : Int)) = true := decide_eq_true c6
        clear c6
        have HC7 := Aside0.mk H
        clear H
        have p117 : 0 ≤ (x4_1 : Int) := of_decide_eq_true (by first | (with_reducible assumption) | assumption)
        have q117 : x4_1 < (l0.length : Int) := of_decide_eq_true (by first | (with_reducible assumption) | assumption)
        obtain ⟨ad117, e117, hx117_0, hx117_1⟩ := at_T68 HR0.out x4_1 p117 q117
        cases e117
        replace hx117_0 := (HB.out.cell (World.block_lt_of_cell? w _ hx117_0)).trans hx117_0
        replace hx117_1 := (HB.out.cell (World.block_lt_of_cell? w _ hx117_1)).trans hx117_1
        replace p117 := eq_true p117
        replace q117 := eq_true q117
        go_upto_region 6 with (first | ((with_reducible refine gate_dst (N := 5) rfl ?_); refine box_event ?hg (N := 5) ?hd (cs := #[.int .i64 0, .int .i64 0]) (t := 68) ?hr ?_; (case hd => rfl); (case hg => rfl); (case hr => first | (go_simp; done) | (go_simp; rfl)); intro gb118 hg w8 hbox hb; have n0_ := Aside0.mk (Kd.R_below (Kd.R_elderB (by (with_reducible repeat (first | apply Kd.R_alloc | apply Kd.R_drewN | apply Kd.R_drew)); exact HO_3.out) gb118 (Nat.le_of_eq hg.symm)) hb); have n1_ := Aside0.mk (below_step (by repeat (first | (with_reducible first | exact HB.out | apply below_alloc | apply pw_below_drewN | apply below_drew1) | exact HB.out)) hb); have n2_ := Aside0.mk (hbox); have n3_ := Aside0.mk ((by rw [hg]; exact (below_size (by repeat (first | (with_reducible first | exact HB.out | apply below_alloc | apply pw_below_drewN | apply below_drew1) | exact HB.out))) : w.heap.size ≤ gb118)); have n4_ := Aside0.mk ((by rw [hg]; exact (below_size (by repeat (first | (with_reducible first | exact HB.out | apply below_alloc | apply pw_below_drewN | apply below_drew1) | exact HB.out))) : w.heap.size ≤ gb118)); clear HO_3; clear HB; have HO_3 := n0_; have HB := n1_; have BK118 := n2_; have GW118 := n3_; have GE118 := n4_; clear n0_ n1_ n2_ n3_ n4_; clear hb hbox hg; obtain ⟨hcz9_0, hcz9_1, hfz9_0, hfz9_1⟩ := blk_all2 BK118.out))
        (try simp only [Act.put, List.setIfInBounds_toArray, List.set_cons_zero, List.set_cons_succ])
        go_cut [34] (fun v34 wc => ∃ (kq : Nat) (x34_6 : Bool), v34 = .bool x34_6 ∧ Aside0 (stopgateref03_Fix.j2 kq l0 x3_1 x4_1 x34_6 (-1) (wrap64 (Int.tmod (IntKind.u64.wrap ((rd_T68 l0 x4_1).f1)) 4611686018427387905)) = some r) ∧ Aside0 (kq ≤ kj1) ∧ Aside0 (Kd.R k68 68 wc w.heap.size (fun k_ => k_ ≠ gb118) u3 x3_1) ∧ Aside0 (wc.heap[gb118]? = some (.cells #[.int .i64 (-1), .int .i64 (wrap64 (Int.tmod (IntKind.u64.wrap ((rd_T68 l0 x4_1).f1)) 4611686018427387905))] 68 (0, 0))) ∧ Aside0 (Below w.heap.size w wc))
        case first =>
         have H := HC7.out
         clear HC7
         by_cases c10 : x4_1 > 0
         ·rw [if_pos c10] at H
          have c10b0 : decide (0 < x4_1) = true := decide_eq_true c10
          clear c10
          (first | rw [c10b0] | (simp only [i64_w, i32_w]; rw [c10b0]) | skip)
          have H' := Aside0.mk H
          clear H
          have p119 : 0 ≤ (x4_1 : Int) := of_decide_eq_true (by first | (with_reducible assumption) | assumption)
          have q119 : x4_1 < (l0.length : Int) := of_decide_eq_true (by first | (with_reducible assumption) | assumption)
          obtain ⟨ad119, e119, hx119_0, hx119_1⟩ := at_T68 HR0.out x4_1 p119 q119
          obtain rfl : ad117 = ad119 := (by injection e119)
          have hn119_0 : ad117.block ≠ gb118 := Nat.ne_of_lt (Nat.lt_of_lt_of_le (by have := World.block_lt_of_cell? _ _ hx119_0; first | rwa [add_block] at this | exact this) GW118.out)
          have hn119_1 : ad117.block ≠ gb118 := Nat.ne_of_lt (Nat.lt_of_lt_of_le (by have := World.block_lt_of_cell? _ _ hx119_0; first | rwa [add_block] at this | exact this) GW118.out)
          replace hx119_0 := (HB.out.cell (World.block_lt_of_cell? w _ hx119_0)).trans hx119_0
          replace hx119_1 := (HB.out.cell (World.block_lt_of_cell? w _ hx119_1)).trans hx119_1
          replace hx119_0 := (cell_far (p := ⟨gb118, 0, none⟩) (by first | (rw [add_block]; exact hn119_0) | (show (Addr.add _ _).block ≠ _; rw [add_block]; exact hn119_0) | exact hn119_0) (.int .i64 (-1))).trans hx119_0
          replace hx119_1 := (cell_far (p := ⟨gb118, 0, none⟩) (by first | (rw [add_block]; exact hn119_0) | (show (Addr.add _ _).block ≠ _; rw [add_block]; exact hn119_0) | exact hn119_0) (.int .i64 (-1))).trans hx119_1
          replace hx119_0 := (cell_far (p := ⟨gb118, 1, none⟩) (by first | (rw [add_block]; exact hn119_1) | (show (Addr.add _ _).block ≠ _; rw [add_block]; exact hn119_1) | exact hn119_1) (.int .i64 (wrap64 (Int.tmod (IntKind.u64.wrap ((rd_T68 l0 x4_1).f1)) 4611686018427387905)))).trans hx119_0
          replace hx119_1 := (cell_far (p := ⟨gb118, 1, none⟩) (by first | (rw [add_block]; exact hn119_1) | (show (Addr.add _ _).block ≠ _; rw [add_block]; exact hn119_1) | exact hn119_1) (.int .i64 (wrap64 (Int.tmod (IntKind.u64.wrap ((rd_T68 l0 x4_1).f1)) 4611686018427387905)))).trans hx119_1
          clear hn119_0
          clear hn119_1
          replace p119 := eq_true p119
          replace q119 := eq_true q119
          go_wp2
          go_meet
          case rel => exact ⟨_, (decide (((rd_T68 l0 x4_1).f0) ≥ 0)), (by first | rfl | (simp; done) | (simp [*]; done)), H', ⟨by have := HK1.out; have := HJ1.out; first | omega | exact Nat.le_refl _⟩, ⟨by (with_reducible repeat (first | apply Kd.R_alloc | apply Kd.R_drewN | apply Kd.R_drew)); exact Kd.R_mono (Kd.R_far (p := ⟨gb118, 1, none⟩) (Kd.R_far (p := ⟨gb118, 0, none⟩) (Kd.R_mono HO_3.out (fun k_ hk => (⟨hk, hk.2⟩ : _ ∧ k_ ≠ gb118))) (fun _ hk => hk.2) (.int .i64 (-1))) (fun _ hk => hk.2) (.int .i64 (wrap64 (Int.tmod (IntKind.u64.wrap ((rd_T68 l0 x4_1).f1)) 4611686018427387905)))) (fun _ hk => hk.1.2)⟩, ⟨by (with_reducible repeat (first | refine blk_drewN ?_ _ | refine blk_drew ?_ | refine blk_alloc ?_ _)); refine blk_put (cs := #[.int .i64 (-1), .int .i64 0]) ?_ 1 _ rfl; (with_reducible repeat (first | refine blk_drewN ?_ _ | refine blk_drew ?_ | refine blk_alloc ?_ _)); refine blk_put (cs := #[.int .i64 0, .int .i64 0]) ?_ 0 _ rfl; (with_reducible repeat (first | refine blk_drewN ?_ _ | refine blk_drew ?_ | refine blk_alloc ?_ _)); exact BK118.out⟩, ⟨by repeat (first | (with_reducible first | exact HB.out | apply below_alloc | apply pw_below_drewN | apply below_drew1 | refine below_set ?_ GE118.out) | exact HB.out)⟩⟩
         ·rw [if_neg c10] at H
          have c10b0 : decide (0 < x4_1) = false := decide_eq_false c10
          clear c10
          (first | rw [c10b0] | (simp only [i64_w, i32_w]; rw [c10b0]) | skip)
          have H' := Aside0.mk H
          clear H
          go_wp2
          go_meet
          case rel => exact ⟨_, (false), (by first | rfl | (simp; done) | (simp [*]; done)), H', ⟨by have := HK1.out; have := HJ1.out; first | omega | exact Nat.le_refl _⟩, ⟨by (with_reducible repeat (first | apply Kd.R_alloc | apply Kd.R_drewN | apply Kd.R_drew)); exact Kd.R_mono (Kd.R_far (p := ⟨gb118, 1, none⟩) (Kd.R_far (p := ⟨gb118, 0, none⟩) (Kd.R_mono HO_3.out (fun k_ hk => (⟨hk, hk.2⟩ : _ ∧ k_ ≠ gb118))) (fun _ hk => hk.2) (.int .i64 (-1))) (fun _ hk => hk.2) (.int .i64 (wrap64 (Int.tmod (IntKind.u64.wrap ((rd_T68 l0 x4_1).f1)) 4611686018427387905)))) (fun _ hk => hk.1.2)⟩, ⟨by (with_reducible repeat (first | refine blk_drewN ?_ _ | refine blk_drew ?_ | refine blk_alloc ?_ _)); refine blk_put (cs := #[.int .i64 (-1), .int .i64 0]) ?_ 1 _ rfl; (with_reducible repeat (first | refine blk_drewN ?_ _ | refine blk_drew ?_ | refine blk_alloc ?_ _)); refine blk_put (cs := #[.int .i64 0, .int .i64 0]) ?_ 0 _ rfl; (with_reducible repeat (first | refine blk_drewN ?_ _ | refine blk_drew ?_ | refine blk_alloc ?_ _)); exact BK118.out⟩, ⟨by repeat (first | (with_reducible first | exact HB.out | apply below_alloc | apply pw_below_drewN | apply below_drew1 | refine below_set ?_ GE118.out) | exact HB.out)⟩⟩
        case rest =>
         clear HC7
         try clear c1
         try clear p1
         try clear q1
         try clear hx1
         try clear c2
         try clear p2
         try clear c3
         try clear c3b0
         try clear c4
         try clear c5
         try clear c5b0
         try clear c6
         try clear c6b0
         try clear p6
         try clear c10
         try clear c10b0
         try clear hcz9_0
         try clear hcz9_1
         try clear hfz9_0
         try clear hfz9_1
         try clear hx117_0
         try clear hx117_1
         try clear hx119_0
         try clear hx119_1
         try clear p117
         try clear p119
         try clear p2
         try clear q117
         try clear q119
         obtain ⟨kq, x34_6, rfl, HA, HJ6, HO_3, BK118, HB⟩ := hcut
         cases kq with
         | zero => exact absurd HA.out (by simp [stopgateref03_Fix.j2])
         | succ kj6 =>
          have H := HA.out
          clear HA
          simp only [stopgateref03_Fix.j2] at H
          by_cases c11 : x34_6 = true
          ·subst c11
           have H1 : (if 0 ≤ x4_1 then (if x4_1 < (l0.length : Int) then (if x4_1 = 0 then (none) else ((stopgateref03_Path.f kj6 x3_1 (Int.tmod ((rd_T68 l0 x4_1).f0) x4_1)).bind fun t121 => (if (t121.length : Int) ≥ 3 then (if x3_1.length < 8796093022208 then (stopgateref03_Fix.l0 kj6 l0 (x3_1 ++ [(⟨(-1), (wrap64 (Int.tmod (IntKind.u64.wrap ((rd_T68 l0 x4_1).f1)) 4611686018427387905))⟩ : S68)]) (wrap64 (x4_1 + 1))) else (none)) else (if x3_1.length < 8796093022208 then (stopgateref03_Fix.l0 kj6 l0 (x3_1 ++ [(⟨Int.tmod ((rd_T68 l0 x4_1).f0) x4_1, (wrap64 (Int.tmod (IntKind.u64.wrap ((rd_T68 l0 x4_1).f1)) 4611686018427387905))⟩ : S68)]) (wrap64 (x4_1 + 1))) else (none))))) else (none)) else (none)) = some r := by rw [if_pos rfl] at H; exact H
           clear H
           have H := H1
           clear H1
           by_cases c12 : 0 ≤ x4_1
           ·rw [if_pos c12] at H
            have c12b0 : decide (0 ≤ x4_1) = true := decide_eq_true c12
            clear c12
            by_cases c13 : x4_1 < (l0.length : Int)
            ·rw [if_pos c13] at H
             have c13b0 : decide (x4_1 < (l0.length : Int)) = true := decide_eq_true c13
             clear c13
             by_cases c14 : x4_1 = 0
             ·rw [if_pos c14] at H
              exact absurd H (by simp)
             ·rw [if_neg c14] at H
              have c14b0 : (x4_1 == 0) = false := beq_eq_false_iff_ne.mpr c14
              have c14b1 : (x4_1 != 0) = true := bne_iff_ne.mpr c14
              replace H := Option.bind_eq_some_iff.mp H
              obtain ⟨t121, A150, H⟩ := H
              replace H : (if (t121.length : Int) ≥ 3 then (if x3_1.length < 8796093022208 then (stopgateref03_Fix.l0 kj6 l0 (x3_1 ++ [(⟨(-1), (wrap64 (Int.tmod (IntKind.u64.wrap ((rd_T68 l0 x4_1).f1)) 4611686018427387905))⟩ : S68)]) (wrap64 (x4_1 + 1))) else (none)) else (if x3_1.length < 8796093022208 then (stopgateref03_Fix.l0 kj6 l0 (x3_1 ++ [(⟨Int.tmod ((rd_T68 l0 x4_1).f0) x4_1, (wrap64 (Int.tmod (IntKind.u64.wrap ((rd_T68 l0 x4_1).f1)) 4611686018427387905))⟩ : S68)]) (wrap64 (x4_1 + 1))) else (none))) = some r := H
              have A15 := Aside0.mk A150
              clear A150
              by_cases c16 : (t121.length : Int) ≥ 3
              ·rw [if_pos c16] at H
               have c16b0 : decide (3 ≤ (t121.length : Int)) = true := decide_eq_true c16
               have c16b1 : decide (3 ≤ t121.length) = true := decide_eq_true (by omega)
               clear c16
               by_cases c17 : x3_1.length < 8796093022208
               ·rw [if_pos c17] at H
                have LMc17 := Aside0.mk c17
                clear c17
                obtain ⟨y124, hy124⟩ : ∃ y_ : List (S68), y_ = (x3_1 ++ [(⟨(-1), (wrap64 (Int.tmod (IntKind.u64.wrap ((rd_T68 l0 x4_1).f1)) 4611686018427387905))⟩ : S68)]) := ⟨_, rfl⟩
                replace H : (stopgateref03_Fix.l0 kj6 l0 y124 (wrap64 (x4_1 + 1))) = some r := by first | (rw [hy124]; with_reducible exact H) | (have H2_ := (Option.bind_some _ _).symm.trans H; rw [hy124]; with_reducible exact H2_) | (have H2_ := (Option.bind_some _ _).symm.trans H; with_reducible exact H2_) | with_reducible exact H | (rw [hy124]; exact H) | exact H
                have Ny124 := Aside0.mk hy124
                clear hy124
                have H' := Aside0.mk H
                clear H
                have p120 : 0 ≤ (x4_1 : Int) := of_decide_eq_true (by first | (with_reducible assumption) | assumption)
                have q120 : x4_1 < (l0.length : Int) := of_decide_eq_true (by first | (with_reducible assumption) | assumption)
                obtain ⟨ad120, e120, hx120_0, hx120_1⟩ := at_T68 HR0.out x4_1 p120 q120
                obtain rfl : ad117 = ad120 := (by injection e120)
                replace hx120_0 := (HB.out.cell (World.block_lt_of_cell? w _ hx120_0)).trans hx120_0
                replace hx120_1 := (HB.out.cell (World.block_lt_of_cell? w _ hx120_1)).trans hx120_1
                replace p120 := eq_true p120
                replace q120 := eq_true q120
                obtain ⟨hcz18_0, hcz18_1, hfz18_0, hfz18_1⟩ := blk_all2 BK118.out
                obtain ⟨Ao19, co19, eo19⟩ := Kd.R_slice HO_3.out
                subst eo19
                go_wp2_with (first | ((with_reducible refine gate_callee (f := 31) rfl ?_); refine goesL_ (some 46) rfl rfl Try.func31 (by kernel_rfl) rfl #[.slice Ao19 x3_1.length co19, .int .i64 (Int.tmod ((rd_T68 l0 x4_1).f0) x4_1)] rfl (by (try simp only [List.map_toArray, List.map_cons, List.map_nil]); first | done | rfl | (simp only [List.length_drop, List.length_take]; rfl)) ?_; (with_reducible refine (stopgateref03_Path.calls kj6 _ _ x3_1 (Int.tmod ((rd_T68 l0 x4_1).f0) x4_1) t121 _ ?side1 ?side2 A15.out).mono ?_); (case side1 => refine (Kd.R_reads' (e := 68) (base := w.heap.size) (ok := fun k_ => k_ ≠ gb118) (n := x3_1.length) (c := co19) ?_).2.2; exact (by (with_reducible repeat (first | apply Kd.R_alloc | apply Kd.R_drewN | apply Kd.R_drew)); exact (Kd.R_mono (Kd.R_far (p := ⟨gb118, 0, none⟩) (Kd.R_mono HO_3.out (fun k_ hk => (⟨hk, hk⟩ : _ ∧ k_ ≠ gb118))) (fun _ hk => hk.2) (.int .i64 (Int.tmod ((rd_T68 l0 x4_1).f0) x4_1))) (fun _ h_ => h_.1)))); (case side2 => exact (Kd.R_reads' HO_3.out).2.1); rintro e w20 ⟨v122, rfl, ho0, hb⟩; refine ⟨_, rfl, ?_⟩; have n0_ := Aside0.mk (Kd.R_below (by (with_reducible repeat (first | apply Kd.R_alloc | apply Kd.R_drewN | apply Kd.R_drew)); exact (Kd.R_mono (Kd.R_far (p := ⟨gb118, 0, none⟩) (Kd.R_mono HO_3.out (fun k_ hk => (⟨hk, hk⟩ : _ ∧ k_ ≠ gb118))) (fun _ hk => hk.2) (.int .i64 (Int.tmod ((rd_T68 l0 x4_1).f0) x4_1))) (fun _ h_ => h_.1))) hb); have n1_ := Aside0.mk (Kd.R_lower ho0 (below_size (by repeat (first | (with_reducible first | exact HB.out | apply below_alloc | apply pw_below_drewN | apply below_drew1 | refine below_set ?_ GE118.out) | exact HB.out)))); have n2_ := Aside0.mk (blk_below (g := gb118) (o := .cells #[.int .i64 (Int.tmod ((rd_T68 l0 x4_1).f0) x4_1), .int .i64 (wrap64 (Int.tmod (IntKind.u64.wrap ((rd_T68 l0 x4_1).f1)) 4611686018427387905))] 68 (0, 0)) (by (with_reducible repeat (first | refine blk_drewN ?_ _ | refine blk_drew ?_ | refine blk_alloc ?_ _)); refine blk_put (cs := #[.int .i64 (-1), .int .i64 (wrap64 (Int.tmod (IntKind.u64.wrap ((rd_T68 l0 x4_1).f1)) 4611686018427387905))]) ?_ 0 _ rfl; (with_reducible repeat (first | refine blk_drewN ?_ _ | refine blk_drew ?_ | refine blk_alloc ?_ _)); exact BK118.out) hb); have n3_ := Aside0.mk (below_step (by repeat (first | (with_reducible first | exact HB.out | apply below_alloc | apply pw_below_drewN | apply below_drew1 | refine below_set ?_ GE118.out) | exact HB.out)) hb); clear HO_3; clear BK118; clear HB; have HO_3 := n0_; have HO123 := n1_; have BK118 := n2_; have HB := n3_; clear n0_ n1_ n2_ n3_; (try clear hb); (try clear hb2); (try clear hk); (try clear hi); (try clear ho0); obtain ⟨Ao21, co21, eo21⟩ := Kd.R_slice HO123.out; subst eo21; obtain ⟨hcz22_0, hcz22_1, hfz22_0, hfz22_1⟩ := blk_all2 BK118.out) | ((with_reducible refine gate_builtin (b := .append) (xs := #[.tmp 50, .tmp 52]) rfl ?_); at_builtin; refine Kd.R_append k68 (w0 := w) w.heap.size rfl (.tmp 50) (.tmp 52) 27 68 (.agg #[(.int .i64 0), (.int .i64 0)]) 16 rfl Try.underlying27 info68 rfl (by decide) (by omega) (.slice Ao19 x3_1.length co19) x3_1 (⟨(-1), (wrap64 (Int.tmod (IntKind.u64.wrap ((rd_T68 l0 x4_1).f1)) 4611686018427387905))⟩ : S68) [.int .i64 (-1), .int .i64 (wrap64 (Int.tmod (IntKind.u64.wrap ((rd_T68 l0 x4_1).f1)) 4611686018427387905))] (fun k_ => k_ ≠ gb118) (fun _ => False) rfl (by first | (go_simp; done) | (go_simp; rfl)) ?aP (fun _ hk => hk.elim) ?aF ?aO ?aB ?aS ?aL ?_; (case aP => exact k68_mkM _ _ _ (⟨(-1), (wrap64 (Int.tmod (IntKind.u64.wrap ((rd_T68 l0 x4_1).f1)) 4611686018427387905))⟩ : S68)); (case aB => exact (by repeat (first | (with_reducible first | exact HB.out | apply below_alloc | apply pw_below_drewN | apply below_drew1 | refine below_set ?_ GE118.out) | exact HB.out))); (case aF => exact (fun k_ hk => Kd.freshB (g := gb118) (o := .cells #[.int .i64 (-1), .int .i64 (wrap64 (Int.tmod (IntKind.u64.wrap ((rd_T68 l0 x4_1).f1)) 4611686018427387905))] 68 (0, 0)) (by (with_reducible repeat (first | refine blk_drewN ?_ _ | refine blk_drew ?_ | refine blk_alloc ?_ _)); refine blk_put (cs := #[.int .i64 (Int.tmod ((rd_T68 l0 x4_1).f0) x4_1), .int .i64 (wrap64 (Int.tmod (IntKind.u64.wrap ((rd_T68 l0 x4_1).f1)) 4611686018427387905))]) ?_ 0 _ rfl; (with_reducible repeat (first | refine blk_drewN ?_ _ | refine blk_drew ?_ | refine blk_alloc ?_ _)); exact BK118.out) k_ hk)); (case aO => exact (by (with_reducible repeat (first | apply Kd.R_alloc | apply Kd.R_drewN | apply Kd.R_drew)); exact Kd.R_mono (Kd.R_far (p := ⟨gb118, 0, none⟩) (Kd.R_mono HO_3.out (fun k_ hk => (⟨hk, hk⟩ : _ ∧ k_ ≠ gb118))) (fun _ hk => hk.2) (.int .i64 (-1))) (fun _ hk => hk.1))); (case aS => exact (below_size (by repeat (first | (with_reducible first | exact HB.out | apply below_alloc | apply pw_below_drewN | apply below_drew1 | refine below_set ?_ GE118.out) | exact HB.out)))); (case aL => have := LMc17.out; omega); intro v125 w23 ho hb hg hat; rw [← Ny124.out] at ho; have n0_ := Aside0.mk (blk_grown (g := gb118) (o := .cells #[.int .i64 (-1), .int .i64 (wrap64 (Int.tmod (IntKind.u64.wrap ((rd_T68 l0 x4_1).f1)) 4611686018427387905))] 68 (0, 0)) (by (with_reducible repeat (first | refine blk_drewN ?_ _ | refine blk_drew ?_ | refine blk_alloc ?_ _)); refine blk_put (cs := #[.int .i64 (Int.tmod ((rd_T68 l0 x4_1).f0) x4_1), .int .i64 (wrap64 (Int.tmod (IntKind.u64.wrap ((rd_T68 l0 x4_1).f1)) 4611686018427387905))]) ?_ 0 _ rfl; (with_reducible repeat (first | refine blk_drewN ?_ _ | refine blk_drew ?_ | refine blk_alloc ?_ _)); exact BK118.out) hg (Kd.R_away HO_3.out (fun _ hk => hk))); have n1_ := Aside0.mk (Kd.R_over' (by (with_reducible repeat (first | apply Kd.R_alloc | apply Kd.R_drewN | apply Kd.R_drew)); exact (Kd.R_mono (Kd.R_far (p := ⟨gb118, 0, none⟩) (Kd.R_types HO123.out BK118.out (by decide)) (fun _ hk => hk.2) (.int .i64 (-1))) (fun _ h_ => h_.1))) (Kd.R_typed (by (with_reducible repeat (first | apply Kd.R_alloc | apply Kd.R_drewN | apply Kd.R_drew)); exact (Kd.R_mono (Kd.R_far (p := ⟨gb118, 0, none⟩) (Kd.R_mono HO_3.out (fun k_ hk => (⟨hk, hk⟩ : _ ∧ k_ ≠ gb118))) (fun _ hk => hk.2) (.int .i64 (-1))) (fun _ h_ => h_.1)))) (by decide) hg); have n2_ := Aside0.mk (hb); have n3_ := Aside0.mk (ho); clear BK118; clear HO123; clear HB; clear HO_3; have BK118 := n0_; have HO123 := n1_; have HB := n2_; have HO126 := n3_; clear n0_ n1_ n2_ n3_; clear ho hb hg hat))
                go_roundg kj6
                case measure => have := HK1.out; have := HJ1.out; have := HJ6.out; omega
                case rel => exact ⟨(y124), (wrap64 (x4_1 + 1)), (by first | rfl | (simp; done) | (simp [*]; done)), H', ⟨by have := HK1.out; have := HJ1.out; have := HJ6.out; omega⟩, ⟨by (with_reducible repeat (first | apply Kd.R_alloc | apply Kd.R_drewN | apply Kd.R_drew)); exact Kd.R_mono HO126.out (fun _ hk => trivial)⟩, ⟨by repeat (first | (with_reducible first | exact HB.out | apply below_alloc | apply pw_below_drewN | apply below_drew1 | refine below_set ?_ GE118.out) | exact HB.out)⟩⟩
               ·rw [if_neg c17] at H
                exact absurd H (by simp)
              ·rw [if_neg c16] at H
               have c16b0 : decide (3 ≤ (t121.length : Int)) = false := decide_eq_false c16
               have c16b1 : decide (3 ≤ t121.length) = false := decide_eq_false (by omega)
               clear c16
               by_cases c24 : x3_1.length < 8796093022208
               ·rw [if_pos c24] at H
                have LMc24 := Aside0.mk c24
                clear c24
                obtain ⟨y127, hy127⟩ : ∃ y_ : List (S68), y_ = (x3_1 ++ [(⟨Int.tmod ((rd_T68 l0 x4_1).f0) x4_1, (wrap64 (Int.tmod (IntKind.u64.wrap ((rd_T68 l0 x4_1).f1)) 4611686018427387905))⟩ : S68)]) := ⟨_, rfl⟩
                replace H : (stopgateref03_Fix.l0 kj6 l0 y127 (wrap64 (x4_1 + 1))) = some r := by first | (rw [hy127]; with_reducible exact H) | (have H2_ := (Option.bind_some _ _).symm.trans H; rw [hy127]; with_reducible exact H2_) | (have H2_ := (Option.bind_some _ _).symm.trans H; with_reducible exact H2_) | with_reducible exact H | (rw [hy127]; exact H) | exact H
                have Ny127 := Aside0.mk hy127
                clear hy127
                have H' := Aside0.mk H
                clear H
                have p120 : 0 ≤ (x4_1 : Int) := of_decide_eq_true (by first | (with_reducible assumption) | assumption)
                have q120 : x4_1 < (l0.length : Int) := of_decide_eq_true (by first | (with_reducible assumption) | assumption)
                obtain ⟨ad120, e120, hx120_0, hx120_1⟩ := at_T68 HR0.out x4_1 p120 q120
                obtain rfl : ad117 = ad120 := (by injection e120)
                replace hx120_0 := (HB.out.cell (World.block_lt_of_cell? w _ hx120_0)).trans hx120_0
                replace hx120_1 := (HB.out.cell (World.block_lt_of_cell? w _ hx120_1)).trans hx120_1
                replace p120 := eq_true p120
                replace q120 := eq_true q120
                obtain ⟨hcz25_0, hcz25_1, hfz25_0, hfz25_1⟩ := blk_all2 BK118.out
                obtain ⟨Ao26, co26, eo26⟩ := Kd.R_slice HO_3.out
                subst eo26
                go_wp2_with (first | ((with_reducible refine gate_callee (f := 31) rfl ?_); refine goesL_ (some 46) rfl rfl Try.func31 (by kernel_rfl) rfl #[.slice Ao26 x3_1.length co26, .int .i64 (Int.tmod ((rd_T68 l0 x4_1).f0) x4_1)] rfl (by (try simp only [List.map_toArray, List.map_cons, List.map_nil]); first | done | rfl | (simp only [List.length_drop, List.length_take]; rfl)) ?_; (with_reducible refine (stopgateref03_Path.calls kj6 _ _ x3_1 (Int.tmod ((rd_T68 l0 x4_1).f0) x4_1) t121 _ ?side1 ?side2 A15.out).mono ?_); (case side1 => refine (Kd.R_reads' (e := 68) (base := w.heap.size) (ok := fun k_ => k_ ≠ gb118) (n := x3_1.length) (c := co26) ?_).2.2; exact (by (with_reducible repeat (first | apply Kd.R_alloc | apply Kd.R_drewN | apply Kd.R_drew)); exact (Kd.R_mono (Kd.R_far (p := ⟨gb118, 0, none⟩) (Kd.R_mono HO_3.out (fun k_ hk => (⟨hk, hk⟩ : _ ∧ k_ ≠ gb118))) (fun _ hk => hk.2) (.int .i64 (Int.tmod ((rd_T68 l0 x4_1).f0) x4_1))) (fun _ h_ => h_.1)))); (case side2 => exact (Kd.R_reads' HO_3.out).2.1); rintro e w27 ⟨v122, rfl, ho0, hb⟩; refine ⟨_, rfl, ?_⟩; have n0_ := Aside0.mk (Kd.R_below (by (with_reducible repeat (first | apply Kd.R_alloc | apply Kd.R_drewN | apply Kd.R_drew)); exact (Kd.R_mono (Kd.R_far (p := ⟨gb118, 0, none⟩) (Kd.R_mono HO_3.out (fun k_ hk => (⟨hk, hk⟩ : _ ∧ k_ ≠ gb118))) (fun _ hk => hk.2) (.int .i64 (Int.tmod ((rd_T68 l0 x4_1).f0) x4_1))) (fun _ h_ => h_.1))) hb); have n1_ := Aside0.mk (Kd.R_lower ho0 (below_size (by repeat (first | (with_reducible first | exact HB.out | apply below_alloc | apply pw_below_drewN | apply below_drew1 | refine below_set ?_ GE118.out) | exact HB.out)))); have n2_ := Aside0.mk (blk_below (g := gb118) (o := .cells #[.int .i64 (Int.tmod ((rd_T68 l0 x4_1).f0) x4_1), .int .i64 (wrap64 (Int.tmod (IntKind.u64.wrap ((rd_T68 l0 x4_1).f1)) 4611686018427387905))] 68 (0, 0)) (by (with_reducible repeat (first | refine blk_drewN ?_ _ | refine blk_drew ?_ | refine blk_alloc ?_ _)); refine blk_put (cs := #[.int .i64 (-1), .int .i64 (wrap64 (Int.tmod (IntKind.u64.wrap ((rd_T68 l0 x4_1).f1)) 4611686018427387905))]) ?_ 0 _ rfl; (with_reducible repeat (first | refine blk_drewN ?_ _ | refine blk_drew ?_ | refine blk_alloc ?_ _)); exact BK118.out) hb); have n3_ := Aside0.mk (below_step (by repeat (first | (with_reducible first | exact HB.out | apply below_alloc | apply pw_below_drewN | apply below_drew1 | refine below_set ?_ GE118.out) | exact HB.out)) hb); clear HO_3; clear BK118; clear HB; have HO_3 := n0_; have HO123 := n1_; have BK118 := n2_; have HB := n3_; clear n0_ n1_ n2_ n3_; (try clear hb); (try clear hb2); (try clear hk); (try clear hi); (try clear ho0); obtain ⟨Ao28, co28, eo28⟩ := Kd.R_slice HO123.out; subst eo28; obtain ⟨hcz29_0, hcz29_1, hfz29_0, hfz29_1⟩ := blk_all2 BK118.out) | ((with_reducible refine gate_builtin (b := .append) (xs := #[.tmp 50, .tmp 52]) rfl ?_); at_builtin; refine Kd.R_append k68 (w0 := w) w.heap.size rfl (.tmp 50) (.tmp 52) 27 68 (.agg #[(.int .i64 0), (.int .i64 0)]) 16 rfl Try.underlying27 info68 rfl (by decide) (by omega) (.slice Ao26 x3_1.length co26) x3_1 (⟨Int.tmod ((rd_T68 l0 x4_1).f0) x4_1, (wrap64 (Int.tmod (IntKind.u64.wrap ((rd_T68 l0 x4_1).f1)) 4611686018427387905))⟩ : S68) [.int .i64 (Int.tmod ((rd_T68 l0 x4_1).f0) x4_1), .int .i64 (wrap64 (Int.tmod (IntKind.u64.wrap ((rd_T68 l0 x4_1).f1)) 4611686018427387905))] (fun k_ => k_ ≠ gb118) (fun _ => False) rfl rfl ?aP (fun _ hk => hk.elim) ?aF ?aO ?aB ?aS ?aL ?_; (case aP => exact k68_mkM _ _ _ (⟨Int.tmod ((rd_T68 l0 x4_1).f0) x4_1, (wrap64 (Int.tmod (IntKind.u64.wrap ((rd_T68 l0 x4_1).f1)) 4611686018427387905))⟩ : S68)); (case aB => exact (by repeat (first | (with_reducible first | exact HB.out | apply below_alloc | apply pw_below_drewN | apply below_drew1 | refine below_set ?_ GE118.out) | exact HB.out))); (case aF => exact (fun k_ hk => Kd.freshB (g := gb118) (o := .cells #[.int .i64 (Int.tmod ((rd_T68 l0 x4_1).f0) x4_1), .int .i64 (wrap64 (Int.tmod (IntKind.u64.wrap ((rd_T68 l0 x4_1).f1)) 4611686018427387905))] 68 (0, 0)) (by (with_reducible repeat (first | refine blk_drewN ?_ _ | refine blk_drew ?_ | refine blk_alloc ?_ _)); exact BK118.out) k_ hk)); (case aO => exact (by (with_reducible repeat (first | apply Kd.R_alloc | apply Kd.R_drewN | apply Kd.R_drew)); exact HO_3.out)); (case aS => exact (below_size (by repeat (first | (with_reducible first | exact HB.out | apply below_alloc | apply pw_below_drewN | apply below_drew1 | refine below_set ?_ GE118.out) | exact HB.out)))); (case aL => have := LMc24.out; omega); intro v128 w30 ho hb hg hat; rw [← Ny127.out] at ho; have n0_ := Aside0.mk (blk_grown (g := gb118) (o := .cells #[.int .i64 (Int.tmod ((rd_T68 l0 x4_1).f0) x4_1), .int .i64 (wrap64 (Int.tmod (IntKind.u64.wrap ((rd_T68 l0 x4_1).f1)) 4611686018427387905))] 68 (0, 0)) (by (with_reducible repeat (first | refine blk_drewN ?_ _ | refine blk_drew ?_ | refine blk_alloc ?_ _)); exact BK118.out) hg (Kd.R_away HO_3.out (fun _ hk => hk))); have n1_ := Aside0.mk (Kd.R_over' (by (with_reducible repeat (first | apply Kd.R_alloc | apply Kd.R_drewN | apply Kd.R_drew)); exact HO123.out) (Kd.R_typed (by (with_reducible repeat (first | apply Kd.R_alloc | apply Kd.R_drewN | apply Kd.R_drew)); exact HO_3.out)) (by decide) hg); have n2_ := Aside0.mk (hb); have n3_ := Aside0.mk (ho); clear BK118; clear HO123; clear HB; clear HO_3; have BK118 := n0_; have HO123 := n1_; have HB := n2_; have HO129 := n3_; clear n0_ n1_ n2_ n3_; clear ho hb hg hat))
                go_roundg kj6
                case measure => have := HK1.out; have := HJ1.out; have := HJ6.out; omega
                case rel => exact ⟨(y127), (wrap64 (x4_1 + 1)), (by first | rfl | (simp; done) | (simp [*]; done)), H', ⟨by have := HK1.out; have := HJ1.out; have := HJ6.out; omega⟩, ⟨by (with_reducible repeat (first | apply Kd.R_alloc | apply Kd.R_drewN | apply Kd.R_drew)); exact Kd.R_mono HO129.out (fun _ hk => trivial)⟩, ⟨by repeat (first | (with_reducible first | exact HB.out | apply below_alloc | apply pw_below_drewN | apply below_drew1 | refine below_set ?_ GE118.out) | exact HB.out)⟩⟩
               ·rw [if_neg c24] at H
                exact absurd H (by simp)
            ·rw [if_neg c13] at H
             exact absurd H (by simp)
           ·rw [if_neg c12] at H
            exact absurd H (by simp)
          ·replace c11 := Bool.eq_false_iff.mpr c11
           subst c11
           have H1 : (if x3_1.length < 8796093022208 then (stopgateref03_Fix.l0 kj6 l0 (x3_1 ++ [(⟨(-1), (wrap64 (Int.tmod (IntKind.u64.wrap ((rd_T68 l0 x4_1).f1)) 4611686018427387905))⟩ : S68)]) (wrap64 (x4_1 + 1))) else (none)) = some r := by rw [if_neg (show ¬ (false = true) by decide)] at H; exact H
           clear H
           have H := H1
           clear H1
           by_cases c31 : x3_1.length < 8796093022208
           ·rw [if_pos c31] at H
            have LMc31 := Aside0.mk c31
            clear c31
            obtain ⟨y130, hy130⟩ : ∃ y_ : List (S68), y_ = (x3_1 ++ [(⟨(-1), (wrap64 (Int.tmod (IntKind.u64.wrap ((rd_T68 l0 x4_1).f1)) 4611686018427387905))⟩ : S68)]) := ⟨_, rfl⟩
            replace H : (stopgateref03_Fix.l0 kj6 l0 y130 (wrap64 (x4_1 + 1))) = some r := by first | (rw [hy130]; with_reducible exact H) | (have H2_ := (Option.bind_some _ _).symm.trans H; rw [hy130]; with_reducible exact H2_) | (have H2_ := (Option.bind_some _ _).symm.trans H; with_reducible exact H2_) | with_reducible exact H | (rw [hy130]; exact H) | exact H
            have Ny130 := Aside0.mk hy130
            clear hy130
            have H' := Aside0.mk H
            clear H
            obtain ⟨hcz32_0, hcz32_1, hfz32_0, hfz32_1⟩ := blk_all2 BK118.out
            go_wp2_with (first | ((with_reducible refine gate_builtin (b := .append) (xs := #[.tmp 50, .tmp 52]) rfl ?_); at_builtin; refine Kd.R_append k68 (w0 := w) w.heap.size rfl (.tmp 50) (.tmp 52) 27 68 (.agg #[(.int .i64 0), (.int .i64 0)]) 16 rfl Try.underlying27 info68 rfl (by decide) (by omega) u3 x3_1 (⟨(-1), (wrap64 (Int.tmod (IntKind.u64.wrap ((rd_T68 l0 x4_1).f1)) 4611686018427387905))⟩ : S68) [.int .i64 (-1), .int .i64 (wrap64 (Int.tmod (IntKind.u64.wrap ((rd_T68 l0 x4_1).f1)) 4611686018427387905))] (fun k_ => k_ ≠ gb118) (fun _ => False) rfl rfl ?aP (fun _ hk => hk.elim) ?aF ?aO ?aB ?aS ?aL ?_; (case aP => exact k68_mkM _ _ _ (⟨(-1), (wrap64 (Int.tmod (IntKind.u64.wrap ((rd_T68 l0 x4_1).f1)) 4611686018427387905))⟩ : S68)); (case aB => exact (by repeat (first | (with_reducible first | exact HB.out | apply below_alloc | apply pw_below_drewN | apply below_drew1 | refine below_set ?_ GE118.out) | exact HB.out))); (case aF => exact (fun k_ hk => Kd.freshB (g := gb118) (o := .cells #[.int .i64 (-1), .int .i64 (wrap64 (Int.tmod (IntKind.u64.wrap ((rd_T68 l0 x4_1).f1)) 4611686018427387905))] 68 (0, 0)) (by (with_reducible repeat (first | refine blk_drewN ?_ _ | refine blk_drew ?_ | refine blk_alloc ?_ _)); exact BK118.out) k_ hk)); (case aO => exact (by (with_reducible repeat (first | apply Kd.R_alloc | apply Kd.R_drewN | apply Kd.R_drew)); exact HO_3.out)); (case aS => exact (below_size (by repeat (first | (with_reducible first | exact HB.out | apply below_alloc | apply pw_below_drewN | apply below_drew1 | refine below_set ?_ GE118.out) | exact HB.out)))); (case aL => have := LMc31.out; omega); intro v131 w33 ho hb hg hat; rw [← Ny130.out] at ho; have n0_ := Aside0.mk (blk_grown (g := gb118) (o := .cells #[.int .i64 (-1), .int .i64 (wrap64 (Int.tmod (IntKind.u64.wrap ((rd_T68 l0 x4_1).f1)) 4611686018427387905))] 68 (0, 0)) (by (with_reducible repeat (first | refine blk_drewN ?_ _ | refine blk_drew ?_ | refine blk_alloc ?_ _)); exact BK118.out) hg (Kd.R_away HO_3.out (fun _ hk => hk))); have n1_ := Aside0.mk (hb); have n2_ := Aside0.mk (ho); clear BK118; clear HB; clear HO_3; have BK118 := n0_; have HB := n1_; have HO132 := n2_; clear n0_ n1_ n2_; clear ho hb hg hat))
            go_roundg kj6
            case measure => have := HK1.out; have := HJ1.out; have := HJ6.out; omega
            case rel => exact ⟨(y130), (wrap64 (x4_1 + 1)), (by first | rfl | (simp; done) | (simp [*]; done)), H', ⟨by have := HK1.out; have := HJ1.out; have := HJ6.out; omega⟩, ⟨by (with_reducible repeat (first | apply Kd.R_alloc | apply Kd.R_drewN | apply Kd.R_drew)); exact Kd.R_mono HO132.out (fun _ hk => trivial)⟩, ⟨by repeat (first | (with_reducible first | exact HB.out | apply below_alloc | apply pw_below_drewN | apply below_drew1 | refine below_set ?_ GE118.out) | exact HB.out)⟩⟩
           ·rw [if_neg c31] at H
            exact absurd H (by simp)
       ·rw [if_neg c6] at H
        exact absurd H (by simp)
      ·rw [if_neg c5] at H
       exact absurd H (by simp)
     ·replace c4 := Bool.eq_false_iff.mpr c4
      subst c4
      have H1 : (if (x3_1.length : Int) = 0 then (some (([(⟨(-1), 1000⟩ : S68)] : List (S68)))) else (some x3_1)) = some r := by rw [if_neg (show ¬ (false = true) by decide)] at H; exact H
      clear H
      have H := H1
      clear H1
      by_cases c34 : (x3_1.length : Int) = 0
      ·rw [if_pos c34] at H
       have c34b0 : ((x3_1.length : Int) == 0) = true := beq_iff_eq.mpr c34
       have c34b1 : ((x3_1.length : Int) != 0) = false := bne_eq_false_iff_eq.mpr c34
       clear c34
       obtain ⟨y114, hy114⟩ : ∃ y_ : List (S68), y_ = (([(⟨(-1), 1000⟩ : S68)] : List (S68))) := ⟨_, rfl⟩
       replace H : (some y114) = some r := by first | (rw [hy114]; with_reducible exact H) | (have H2_ := (Option.bind_some _ _).symm.trans H; rw [hy114]; with_reducible exact H2_) | (have H2_ := (Option.bind_some _ _).symm.trans H; with_reducible exact H2_) | with_reducible exact H | (rw [hy114]; exact H) | exact H
       have Ny114 := Aside0.mk hy114
       clear hy114
       obtain rfl := Option.some.inj H
       obtain ⟨Ao35, co35, eo35⟩ := Kd.R_slice HO_3.out
       subst eo35
       go_wp2_with (first | ((with_reducible refine gate_dst (N := 58) rfl ?_); refine Kd.R_lit k68 _ 68 ?hg (N := 58) ?hd (xs := ([(⟨(-1), 1000⟩ : S68)] : List (S68))) (inner := [.int .i64 (-1), .int .i64 1000]) (ok := fun _ => True) (okp := fun _ => True) ?hr ?hp (fun _ hk => hk) trivial (Below.refl _ _) (Nat.le_refl _) (by simp) ?_; (case hd => rfl); (case hg => rfl); (case hr => first | (go_simp; done) | (go_simp; rfl)); (case hp => exact (Reps.c2 (show Kd.M k68 _ _ _ (⟨(-1), 1000⟩ : S68) [.int .i64 (-1), .int .i64 1000] from (k68_mkM _ _ _ (⟨(-1), 1000⟩ : S68) )) (Reps.none _ _))); intro v115 w36 ho37 hb hg_ hnew_; clear hg_ hnew_; (first | rw [← Ny114.out] at ho37 | (simp only [Int.reduceToNat] at ho37; rw [← Ny114.out] at ho37)); have n0_ := Aside0.mk (Kd.R_elder' (by (with_reducible repeat (first | apply Kd.R_alloc | apply Kd.R_drewN | apply Kd.R_drew)); exact HO_3.out) (Kd.R_base ho37) hb); have n1_ := Aside0.mk (Kd.R_lower (Kd.R_new' ho37 (Kd.R_lt (by (with_reducible repeat (first | apply Kd.R_alloc | apply Kd.R_drewN | apply Kd.R_drew)); exact HO_3.out))) (below_size (by repeat (first | (with_reducible first | exact HB.out | apply below_alloc | apply pw_below_drewN | apply below_drew1) | exact HB.out)))); have n2_ := Aside0.mk (below_step (by repeat (first | (with_reducible first | exact HB.out | apply below_alloc | apply pw_below_drewN | apply below_drew1) | exact HB.out)) hb); clear HO_3; clear HB; have HO_3 := n0_; have HO116 := n1_; have HB := n2_; clear n0_ n1_ n2_; clear hb ho37))
       go_ret
       exact ⟨_, by first | rfl | (simp [errW_none, errW_some] <;> rfl) | (simp [*, errW_none, errW_some] <;> rfl), by (with_reducible repeat (first | apply Kd.R_alloc | apply Kd.R_drewN | apply Kd.R_drew)); exact Kd.R_mono HO116.out (fun _ hk => trivial), by repeat (first | (with_reducible first | exact HB.out | apply below_alloc | apply pw_below_drewN | apply below_drew1) | exact HB.out)⟩
      ·rw [if_neg c34] at H
       have c34b0 : ((x3_1.length : Int) == 0) = false := beq_eq_false_iff_ne.mpr c34
       have c34b1 : ((x3_1.length : Int) != 0) = true := bne_iff_ne.mpr c34
       have c34b2 : ¬ (x3_1 = []) := fun h_ => c34 (by rw [h_]; rfl)
       obtain rfl := Option.some.inj H
       obtain ⟨Ao38, co38, eo38⟩ := Kd.R_slice HO_3.out
       subst eo38
       go_wp2
       go_ret
       exact ⟨_, by first | rfl | (simp [errW_none, errW_some] <;> rfl) | (simp [*, errW_none, errW_some] <;> rfl), by (with_reducible repeat (first | apply Kd.R_alloc | apply Kd.R_drewN | apply Kd.R_drew)); exact HO_3.out, by repeat (first | (with_reducible first | exact HB.out | apply below_alloc | apply pw_below_drewN | apply below_drew1) | exact HB.out)⟩

/-! ### tree_Node_wrong: function 59 -/
def tree_Node_wrong.j0 : Nat → Bool → Int → Int → Option (Int)
 | 0, _, _, _ => none
 | k + 1, x5, x134000, x134001 => if x5 = true then (some 18) else (if x134001 < 0 then (some 1) else (if x134001 > 4611686018427387904 then (some 1) else (some 0)))
def tree_Node_wrong.f (k : Nat) (a0_0 : Int) (a0_1 : Int) (a1 : Int) : Option (Int) := if a0_0 = (-1) then (tree_Node_wrong.j0 k false a0_0 a0_1) else (if a0_0 < 0 then (tree_Node_wrong.j0 k true a0_0 a0_1) else (tree_Node_wrong.j0 k (decide (a0_0 ≥ a1)) a0_0 a0_1))
theorem tree_Node_wrong.mono_l : ∀ k, (∀ y0 y1 y2, LeO (tree_Node_wrong.j0 k y0 y1 y2) (tree_Node_wrong.j0 (k + 1) y0 y1 y2))
 | 0 => fun _ _ _ r h => by simp [tree_Node_wrong.j0] at h
 | k + 1 => by
  have ih0 := tree_Node_wrong.mono_l k
  ·intro y0 y1 y2
   unfold tree_Node_wrong.j0
   repeat' first
   | (with_reducible exact ih0 _ _ _)
   | (with_reducible exact LeO.refl _)
   | (with_reducible exact LeO.none _)
   | (with_reducible refine LeO.ite ?_ ?_)
   | (with_reducible refine LeO.bind ?_ (fun _ => ?_))
   | exact ih0 _ _ _
   | exact LeO.none _
   | refine LeO.ite ?_ ?_
   | refine LeO.bind ?_ (fun _ => ?_)
theorem tree_Node_wrong.mono : ∀ a0 a1 a2 k, LeO (tree_Node_wrong.f k a0 a1 a2) (tree_Node_wrong.f (k + 1) a0 a1 a2) := by
 intro a0 a1 a2 k
 have ih0 := tree_Node_wrong.mono_l k
 unfold tree_Node_wrong.f
 repeat' first
   | (with_reducible exact ih0 _ _ _)
   | (with_reducible exact LeO.refl _)
   | (with_reducible exact LeO.none _)
   | (with_reducible refine LeO.ite ?_ ?_)
   | (with_reducible refine LeO.bind ?_ (fun _ => ?_))
   | exact ih0 _ _ _
   | exact LeO.none _
   | refine LeO.ite ?_ ?_
   | refine LeO.bind ?_ (fun _ => ?_)
set_option maxHeartbeats 8000000 in
set_option maxRecDepth 100000 in
theorem tree_Node_wrong.calls (k : Nat) (a0_0 : Int) (a0_1 : Int) (a1 : Int) (r : Int) (w : World) (h : tree_Node_wrong.f k a0_0 a0_1 a1 = some r) :
  Calls Try.prog 59 #[.agg #[.int .i64 a0_0, .int .i64 a0_1], .int .i64 a1] w fun e w' => e = .returned (.int .i64 r) ∧ Below w.heap.size w w' := by
 have hu43 := Try.underlying43
 have HB := Aside0.mk (Below.refl w.heap.size w)
 have H : (if a0_0 = (-1) then (tree_Node_wrong.j0 k false a0_0 a0_1) else (if a0_0 < 0 then (tree_Node_wrong.j0 k true a0_0 a0_1) else (tree_Node_wrong.j0 k (decide (a0_0 ≥ a1)) a0_0 a0_1))) = some r := h
 clear h
 have HC3 := Aside0.mk H
 clear H
 go_enter Try.func59, Try.ntmps59
 go_upto_region 1 with (first | ((with_reducible refine gate_dst (N := 2) rfl ?_); refine box_event ?hg (N := 2) ?hd (cs := #[.int .i64 a0_0, .int .i64 a0_1]) (t := 43) ?hr ?_; (case hd => rfl); (case hg => rfl); (case hr => first | (go_simp; done) | (go_simp; rfl)); intro gb133 hg w4 hbox hb; have n0_ := Aside0.mk (below_step (by repeat (first | (with_reducible first | exact HB.out | apply below_alloc | apply pw_below_drewN | apply below_drew1) | exact HB.out)) hb); have n1_ := Aside0.mk (hbox); have n2_ := Aside0.mk ((by rw [hg]; exact (below_size (by repeat (first | (with_reducible first | exact HB.out | apply below_alloc | apply pw_below_drewN | apply below_drew1) | exact HB.out))) : w.heap.size ≤ gb133)); have n3_ := Aside0.mk ((by rw [hg]; exact (below_size (by repeat (first | (with_reducible first | exact HB.out | apply below_alloc | apply pw_below_drewN | apply below_drew1) | exact HB.out))) : w.heap.size ≤ gb133)); clear HB; have HB := n0_; have BK133 := n1_; have GW133 := n2_; have GE133 := n3_; clear n0_ n1_ n2_ n3_; clear hb hbox hg))
 (try simp only [Act.put, List.setIfInBounds_toArray, List.set_cons_zero, List.set_cons_succ])
 go_cut [5] (fun v5 wc => ∃ (kq : Nat) (x5_2 : Bool), v5 = .bool x5_2 ∧ Aside0 (tree_Node_wrong.j0 kq x5_2 a0_0 a0_1 = some r) ∧ Aside0 (kq ≤ k) ∧ Aside0 (wc.heap[gb133]? = some (.cells #[.int .i64 a0_0, .int .i64 a0_1] 43 (0, 0))) ∧ Aside0 (Below w.heap.size w wc))
 case first =>
  have H := HC3.out
  clear HC3
  by_cases c5 : a0_0 = (-1)
  ·rw [if_pos c5] at H
   have c5b0 : (a0_0 == (-1)) = true := beq_iff_eq.mpr c5
   have c5b1 : (a0_0 != (-1)) = false := bne_eq_false_iff_eq.mpr c5
   clear c5
   (first | rw [c5b0] | (simp only [i64_w, i32_w]; rw [c5b0]) | skip)
   have H' := Aside0.mk H
   clear H
   obtain ⟨hcz6_0, hcz6_1, hfz6_0, hfz6_1⟩ := blk_all2 BK133.out
   go_wp2
   go_meet
   case rel => exact ⟨_, (false), (by first | rfl | (simp; done) | (simp [*]; done)), H', ⟨by first | omega | exact Nat.le_refl _⟩, ⟨by (with_reducible repeat (first | refine blk_drewN ?_ _ | refine blk_drew ?_ | refine blk_alloc ?_ _)); exact BK133.out⟩, ⟨by repeat (first | (with_reducible first | exact HB.out | apply below_alloc | apply pw_below_drewN | apply below_drew1 | refine below_set ?_ GE133.out) | exact HB.out)⟩⟩
  ·rw [if_neg c5] at H
   have c5b0 : (a0_0 == (-1)) = false := beq_eq_false_iff_ne.mpr c5
   have c5b1 : (a0_0 != (-1)) = true := bne_iff_ne.mpr c5
   (first | rw [c5b0] | (simp only [i64_w, i32_w]; rw [c5b0]) | skip)
   by_cases c7 : a0_0 < 0
   ·rw [if_pos c7] at H
    have c7b0 : decide (a0_0 < 0) = true := decide_eq_true c7
    clear c7
    have H' := Aside0.mk H
    clear H
    obtain ⟨hcz8_0, hcz8_1, hfz8_0, hfz8_1⟩ := blk_all2 BK133.out
    go_wp2
    go_meet
    case rel => exact ⟨_, (true), (by first | rfl | (simp; done) | (simp [*]; done)), H', ⟨by first | omega | exact Nat.le_refl _⟩, ⟨by (with_reducible repeat (first | refine blk_drewN ?_ _ | refine blk_drew ?_ | refine blk_alloc ?_ _)); exact BK133.out⟩, ⟨by repeat (first | (with_reducible first | exact HB.out | apply below_alloc | apply pw_below_drewN | apply below_drew1 | refine below_set ?_ GE133.out) | exact HB.out)⟩⟩
   ·rw [if_neg c7] at H
    have c7b0 : decide (a0_0 < 0) = false := decide_eq_false c7
    clear c7
    have H' := Aside0.mk H
    clear H
    obtain ⟨hcz9_0, hcz9_1, hfz9_0, hfz9_1⟩ := blk_all2 BK133.out
    go_wp2
    go_meet
    case rel => exact ⟨_, (decide (a0_0 ≥ a1)), (by first | rfl | (simp; done) | (simp [*]; done)), H', ⟨by first | omega | exact Nat.le_refl _⟩, ⟨by (with_reducible repeat (first | refine blk_drewN ?_ _ | refine blk_drew ?_ | refine blk_alloc ?_ _)); exact BK133.out⟩, ⟨by repeat (first | (with_reducible first | exact HB.out | apply below_alloc | apply pw_below_drewN | apply below_drew1 | refine below_set ?_ GE133.out) | exact HB.out)⟩⟩
 case rest =>
  clear HC3
  try clear p2
  try clear c5
  try clear c5b0
  try clear c5b1
  try clear c7
  try clear c7b0
  try clear hcz6_0
  try clear hcz6_1
  try clear hcz8_0
  try clear hcz8_1
  try clear hcz9_0
  try clear hcz9_1
  try clear hfz6_0
  try clear hfz6_1
  try clear hfz8_0
  try clear hfz8_1
  try clear hfz9_0
  try clear hfz9_1
  obtain ⟨kq, x5_2, rfl, HA, HJ2, BK133, HB⟩ := hcut
  cases kq with
  | zero => exact absurd HA.out (by simp [tree_Node_wrong.j0])
  | succ kj2 =>
   have H := HA.out
   clear HA
   simp only [tree_Node_wrong.j0] at H
   by_cases c10 : x5_2 = true
   ·subst c10
    have H1 : (some 18) = some r := by rw [if_pos rfl] at H; exact H
    clear H
    have H := H1
    clear H1
    obtain rfl := Option.some.inj H
    go_wp2
    go_ret
    exact ⟨by first | rfl | (simp [errW_none, errW_some] <;> rfl) | (simp [*, errW_none, errW_some] <;> rfl), by repeat (first | (with_reducible first | exact HB.out | apply below_alloc | apply pw_below_drewN | apply below_drew1 | refine below_set ?_ GE133.out) | exact HB.out)⟩
   ·replace c10 := Bool.eq_false_iff.mpr c10
    subst c10
    have H1 : (if a0_1 < 0 then (some 1) else (if a0_1 > 4611686018427387904 then (some 1) else (some 0))) = some r := by rw [if_neg (show ¬ (false = true) by decide)] at H; exact H
    clear H
    have H := H1
    clear H1
    by_cases c11 : a0_1 < 0
    ·rw [if_pos c11] at H
     have c11b0 : decide (a0_1 < 0) = true := decide_eq_true c11
     clear c11
     obtain rfl := Option.some.inj H
     obtain ⟨hcz12_0, hcz12_1, hfz12_0, hfz12_1⟩ := blk_all2 BK133.out
     go_wp2
     go_ret
     exact ⟨by first | rfl | (simp [errW_none, errW_some] <;> rfl) | (simp [*, errW_none, errW_some] <;> rfl), by repeat (first | (with_reducible first | exact HB.out | apply below_alloc | apply pw_below_drewN | apply below_drew1 | refine below_set ?_ GE133.out) | exact HB.out)⟩
    ·rw [if_neg c11] at H
     have c11b0 : decide (a0_1 < 0) = false := decide_eq_false c11
     clear c11
     by_cases c13 : a0_1 > 4611686018427387904
     ·rw [if_pos c13] at H
      have c13b0 : decide (4611686018427387904 < a0_1) = true := decide_eq_true c13
      clear c13
      obtain rfl := Option.some.inj H
      obtain ⟨hcz14_0, hcz14_1, hfz14_0, hfz14_1⟩ := blk_all2 BK133.out
      go_wp2
      go_ret
      exact ⟨by first | rfl | (simp [errW_none, errW_some] <;> rfl) | (simp [*, errW_none, errW_some] <;> rfl), by repeat (first | (with_reducible first | exact HB.out | apply below_alloc | apply pw_below_drewN | apply below_drew1 | refine below_set ?_ GE133.out) | exact HB.out)⟩
     ·rw [if_neg c13] at H
      have c13b0 : decide (4611686018427387904 < a0_1) = false := decide_eq_false c13
      clear c13
      obtain rfl := Option.some.inj H
      obtain ⟨hcz15_0, hcz15_1, hfz15_0, hfz15_1⟩ := blk_all2 BK133.out
      go_wp2
      go_ret
      exact ⟨by first | rfl | (simp [errW_none, errW_some] <;> rfl) | (simp [*, errW_none, errW_some] <;> rfl), by repeat (first | (with_reducible first | exact HB.out | apply below_alloc | apply pw_below_drewN | apply below_drew1 | refine below_set ?_ GE133.out) | exact HB.out)⟩

end Go.Proofs.Ytnodcekkbbmfnaa.QCrB
