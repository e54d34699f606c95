/- Printed by wip/gen/myprint.py, a program of this session, for this claim: functions of the program as Lean functions, each with a proof that the Go code comes to its answers. -/
import Derived.Test.YtgikjgekdeaneaaQRulesChecksx0
import Derived.Test.YtgikjgekdeaneaaQRulesChecksx3
namespace Go.Proofs.Ytgikjgekdeaneaa.QRulesChecks
open Go.RowKit Go.Proofs.YtgikjgekdeaneaaW.PrintWords Go.Proofs.YtgikjgekdeaneaaW.PrintLast Go.Proofs.YtgikjgekdeaneaaW.PrintMore
attribute [local go_sem] max2_int min2_int max_two min_two max_three min_three max_four min_four   -- for this text's walks alone
set_option linter.unusedVariables false
set_option linter.unusedSimpArgs false

attribute [local go_sem] run_store_flt
/-! ### stopgateref03_Fix: function 74 -/
mutual
def stopgateref03_Fix.l0 : Nat → List (S176) → List (S176) → Int → Option ((List (S176)))
 | 0, _, _, _ => none
 | k + 1, x0, x3, x4 => if x4 < (x0.length : Int) then (stopgateref03_Fix.j1 k x0 x3 x4 (decide (x4 < 10))) else (stopgateref03_Fix.j1 k x0 x3 x4 false)
def stopgateref03_Fix.j1 : Nat → List (S176) → List (S176) → Int → Bool → Option ((List (S176)))
 | 0, _, _, _, _ => none
 | k + 1, x0, x3, x4, x13 => if x13 = true then (if 0 ≤ x4 then (if x4 < (x0.length : Int) then (if x4 > 0 then (stopgateref03_Fix.j2 k x0 x3 x4 (decide (((rd_T176 x0 x4).f0) ≥ 0)) (-1) (wrap64 (Int.tmod (IntKind.u64.wrap ((rd_T176 x0 x4).f1)) 4611686018427387905))) else (stopgateref03_Fix.j2 k x0 x3 x4 false (-1) (wrap64 (Int.tmod (IntKind.u64.wrap ((rd_T176 x0 x4).f1)) 4611686018427387905)))) else (none)) else (none)) else (if (x3.length : Int) = 0 then (some (([(⟨(-1), 1000⟩ : S176)] : List (S176)))) else (some x3))
def stopgateref03_Fix.j2 : Nat → List (S176) → List (S176) → Int → Bool → Int → Int → Option ((List (S176)))
 | 0, _, _, _, _, _, _ => none
 | k + 1, x0, x3, x4, x34, x161000, x161001 => if x34 = true then (if 0 ≤ x4 then (if x4 < (x0.length : Int) then (if x4 = 0 then (none) else ((stopgateref03_Path.f k x3 (Int.tmod ((rd_T176 x0 x4).f0) x4)).bind fun t163 => (if (t163.length : Int) ≥ 3 then (if x3.length < 8796093022208 then (stopgateref03_Fix.l0 k x0 (x3 ++ [(⟨(-1), x161001⟩ : S176)]) (wrap64 (x4 + 1))) else (none)) else (if x3.length < 8796093022208 then (stopgateref03_Fix.l0 k x0 (x3 ++ [(⟨Int.tmod ((rd_T176 x0 x4).f0) x4, x161001⟩ : S176)]) (wrap64 (x4 + 1))) else (none))))) else (none)) else (none)) else (if x3.length < 8796093022208 then (stopgateref03_Fix.l0 k x0 (x3 ++ [(⟨x161000, x161001⟩ : S176)]) (wrap64 (x4 + 1))) else (none))
end
def stopgateref03_Fix.f (k : Nat) (l0 : List (S176)) : Option ((List (S176))) := stopgateref03_Fix.l0 k l0 ([] : List (S176)) 0
theorem stopgateref03_Fix.mono_l : ∀ k, (∀ y0 y1 y2, LeO (stopgateref03_Fix.l0 k y0 y1 y2) (stopgateref03_Fix.l0 (k + 1) y0 y1 y2)) ∧ (∀ y0 y1 y2 y3, LeO (stopgateref03_Fix.j1 k y0 y1 y2 y3) (stopgateref03_Fix.j1 (k + 1) y0 y1 y2 y3)) ∧ (∀ y0 y1 y2 y3 y4 y5, LeO (stopgateref03_Fix.j2 k y0 y1 y2 y3 y4 y5) (stopgateref03_Fix.j2 (k + 1) y0 y1 y2 y3 y4 y5))
 | 0 => ⟨fun _ _ _ r h => by simp [stopgateref03_Fix.l0] at h, fun _ _ _ _ r h => by simp [stopgateref03_Fix.j1] at h, fun _ _ _ _ _ _ r h => by simp [stopgateref03_Fix.j2] at h⟩
 | k + 1 => by
  obtain ⟨ih0, ih1, ih2⟩ := stopgateref03_Fix.mono_l k
  refine ⟨?_, ?_, ?_⟩
  ·intro y0 y1 y2
   unfold stopgateref03_Fix.l0
   repeat' first
   | (with_reducible exact ih0 _ _ _)
   | (with_reducible exact ih1 _ _ _ _)
   | (with_reducible exact ih2 _ _ _ _ _ _)
   | (with_reducible exact stopgateref03_Path.mono _ _ _)
   | (with_reducible exact LeO.refl _)
   | (with_reducible exact LeO.none _)
   | (with_reducible refine LeO.ite ?_ ?_)
   | (with_reducible refine LeO.bind ?_ (fun _ => ?_))
   | exact ih0 _ _ _
   | exact ih1 _ _ _ _
   | exact ih2 _ _ _ _ _ _
   | exact stopgateref03_Path.mono _ _ _
   | exact LeO.none _
   | refine LeO.ite ?_ ?_
   | refine LeO.bind ?_ (fun _ => ?_)
  ·intro y0 y1 y2 y3
   unfold stopgateref03_Fix.j1
   repeat' first
   | (with_reducible exact ih0 _ _ _)
   | (with_reducible exact ih1 _ _ _ _)
   | (with_reducible exact ih2 _ _ _ _ _ _)
   | (with_reducible exact stopgateref03_Path.mono _ _ _)
   | (with_reducible exact LeO.refl _)
   | (with_reducible exact LeO.none _)
   | (with_reducible refine LeO.ite ?_ ?_)
   | (with_reducible refine LeO.bind ?_ (fun _ => ?_))
   | exact ih0 _ _ _
   | exact ih1 _ _ _ _
   | exact ih2 _ _ _ _ _ _
   | exact stopgateref03_Path.mono _ _ _
   | exact LeO.none _
   | refine LeO.ite ?_ ?_
   | refine LeO.bind ?_ (fun _ => ?_)
  ·intro y0 y1 y2 y3 y4 y5
   unfold stopgateref03_Fix.j2
   repeat' first
   | (with_reducible exact ih0 _ _ _)
   | (with_reducible exact ih1 _ _ _ _)
   | (with_reducible exact ih2 _ _ _ _ _ _)
   | (with_reducible exact stopgateref03_Path.mono _ _ _)
   | (with_reducible exact LeO.refl _)
   | (with_reducible exact LeO.none _)
   | (with_reducible refine LeO.ite ?_ ?_)
   | (with_reducible refine LeO.bind ?_ (fun _ => ?_))
   | exact ih0 _ _ _
   | exact ih1 _ _ _ _
   | exact ih2 _ _ _ _ _ _
   | exact stopgateref03_Path.mono _ _ _
   | exact LeO.none _
   | refine LeO.ite ?_ ?_
   | refine LeO.bind ?_ (fun _ => ?_)
theorem stopgateref03_Fix.mono : ∀ a0 k, LeO (stopgateref03_Fix.f k a0) (stopgateref03_Fix.f (k + 1) a0) := by
 intro a0 k
 obtain ⟨ih0, ih1, ih2⟩ := stopgateref03_Fix.mono_l k
 unfold stopgateref03_Fix.f
 repeat' first
   | (with_reducible exact ih0 _ _ _)
   | (with_reducible exact ih1 _ _ _ _)
   | (with_reducible exact ih2 _ _ _ _ _ _)
   | (with_reducible exact stopgateref03_Path.mono _ _ _)
   | (with_reducible exact LeO.refl _)
   | (with_reducible exact LeO.none _)
   | (with_reducible refine LeO.ite ?_ ?_)
   | (with_reducible refine LeO.bind ?_ (fun _ => ?_))
   | exact ih0 _ _ _
   | exact ih1 _ _ _ _
   | exact ih2 _ _ _ _ _ _
   | exact stopgateref03_Path.mono _ _ _
   | exact LeO.none _
   | refine LeO.ite ?_ ?_
   | refine LeO.bind ?_ (fun _ => ?_)
set_option maxHeartbeats 8000000 in
set_option maxRecDepth 100000 in
theorem stopgateref03_Fix.calls (k : Nat) (A0 : Option Addr) (c0 : Nat) (l0 : List (S176)) (r : List (S176)) (w : World) (hr0 : Kd.C k176 w A0 l0.length l0) (hc0 : l0.length ≤ c0) (h : stopgateref03_Fix.f k l0 = some r) :
  Calls Try.prog 74 #[.slice A0 l0.length c0] w fun e w' => ∃ v0_ : Value, e = .returned (v0_) ∧ Kd.R k176 176 w' w.heap.size (fun _ => True) v0_ r ∧ Below w.heap.size w w' := by
 have hu176 := Try.underlying176
 have HR0 := Aside0.mk hr0
 have HC0 := Aside0.mk hc0
 clear hr0 hc0
 have HB := Aside0.mk (Below.refl w.heap.size w)
 have H : (stopgateref03_Fix.l0 k l0 ([] : List (S176)) 0) = some r := h
 clear h
 have H' := Aside0.mk H
 clear H
 go_enter Try.func74, Try.ntmps74
 go_wp2
 go_loopg [3, 4] k (fun kq v3 v4 w' => ∃ (x3_1 : List (S176)) (x4_1 : Int), v4 = .int .i64 x4_1 ∧ Aside0 (stopgateref03_Fix.l0 kq l0 x3_1 x4_1 = some r) ∧ Aside0 (kq ≤ k) ∧ Aside0 (Kd.R k176 176 w' w.heap.size (fun _ => True) v3 x3_1) ∧ Aside0 (Below w.heap.size w w'))
 case atStart => exact ⟨(([] : List (S176))), (0), (by first | rfl | (simp; done) | (simp [*]; done)), H', ⟨Nat.le_refl _⟩, ⟨by first | exact Kd.R_nil _ _ _ _ _ | exact Kd.N_nil _ _ _ _ _ | exact Kd.V_nil _ _ _ _ _ | exact Kd.Q_nil _ _ _ _ _ | exact Kd.S_nil _ _ _ _ _⟩, ⟨by repeat (first | (with_reducible first | exact HB.out | apply below_alloc | apply pw_below_drewN | apply below_drew1) | exact HB.out)⟩⟩
 case round =>
  clear H'
  obtain ⟨x3_1, x4_1, rfl, HA, HK1, HO_3, HB⟩ := hrel
  cases gk with
  | zero => exact absurd HA.out (by simp [stopgateref03_Fix.l0])
  | succ k1 =>
   have H := HA.out
   clear HA
   simp only [stopgateref03_Fix.l0] at H
   have HC2 := Aside0.mk H
   clear H
   go_upto_region 3 with (fail)
   go_cut [13] (fun v13 wc => ∃ (kq : Nat) (x13_1 : Bool), v13 = .bool x13_1 ∧ Aside0 (stopgateref03_Fix.j1 kq l0 x3_1 x4_1 x13_1 = some r) ∧ Aside0 (kq ≤ k1) ∧ Aside0 (Kd.R k176 176 wc w.heap.size (fun _ => True) u3 x3_1) ∧ Aside0 (Below w.heap.size w wc))
   case first =>
    have H := HC2.out
    clear HC2
    by_cases c3 : x4_1 < (l0.length : Int)
    ·rw [if_pos c3] at H
     have c3b0 : decide (x4_1 < (l0.length : Int)) = true := decide_eq_true c3
     clear c3
     (first | rw [c3b0] | (simp only [i64_w, i32_w]; rw [c3b0]) | skip)
     have H' := Aside0.mk H
     clear H
     go_wp2
     go_meet
     case rel => exact ⟨_, (decide (x4_1 < 10)), (by first | rfl | (simp; done) | (simp [*]; done)), H', ⟨by have := HK1.out; first | omega | exact Nat.le_refl _⟩, ⟨by (with_reducible repeat (first | apply Kd.R_alloc | apply Kd.R_drewN | apply Kd.R_drew)); exact HO_3.out⟩, ⟨by repeat (first | (with_reducible first | exact HB.out | apply below_alloc | apply pw_below_drewN | apply below_drew1) | exact HB.out)⟩⟩
    ·rw [if_neg c3] at H
     have c3b0 : decide (x4_1 < (l0.length : Int)) = false := decide_eq_false c3
     clear c3
     (first | rw [c3b0] | (simp only [i64_w, i32_w]; rw [c3b0]) | skip)
     have H' := Aside0.mk H
     clear H
     go_wp2
     go_meet
     case rel => exact ⟨_, (false), (by first | rfl | (simp; done) | (simp [*]; done)), H', ⟨by have := HK1.out; first | omega | exact Nat.le_refl _⟩, ⟨by (with_reducible repeat (first | apply Kd.R_alloc | apply Kd.R_drewN | apply Kd.R_drew)); exact HO_3.out⟩, ⟨by repeat (first | (with_reducible first | exact HB.out | apply below_alloc | apply pw_below_drewN | apply below_drew1) | exact HB.out)⟩⟩
   case rest =>
    clear HC2
    try clear p2
    try clear c3
    try clear c3b0
    obtain ⟨kq, x13_1, rfl, HA, HJ1, HO_3, HB⟩ := hcut
    cases kq with
    | zero => exact absurd HA.out (by simp [stopgateref03_Fix.j1])
    | succ kj1 =>
     have H := HA.out
     clear HA
     simp only [stopgateref03_Fix.j1] at H
     by_cases c4 : x13_1 = true
     ·subst c4
      have H1 : (if 0 ≤ x4_1 then (if x4_1 < (l0.length : Int) then (if x4_1 > 0 then (stopgateref03_Fix.j2 kj1 l0 x3_1 x4_1 (decide (((rd_T176 l0 x4_1).f0) ≥ 0)) (-1) (wrap64 (Int.tmod (IntKind.u64.wrap ((rd_T176 l0 x4_1).f1)) 4611686018427387905))) else (stopgateref03_Fix.j2 kj1 l0 x3_1 x4_1 false (-1) (wrap64 (Int.tmod (IntKind.u64.wrap ((rd_T176 l0 x4_1).f1)) 4611686018427387905)))) else (none)) else (none)) = some r := by rw [if_pos rfl] at H; exact H
      clear H
      have H := H1
      clear H1
      by_cases c5 : 0 ≤ x4_1
      ·rw [if_pos c5] at H
       have c5b0 : decide (0 ≤ x4_1) = true := decide_eq_true c5
       clear c5
       by_cases c6 : x4_1 < (l0.length : Int)
       ·rw [if_pos c6] at H
        have c6b0 : decide (x4_1 < (l0.length : Int)) = true := decide_eq_true c6
        clear c6
        have HC7 := Aside0.mk H
        clear H
        have p159 : 0 ≤ (x4_1 : Int) := of_decide_eq_true (by first | (with_reducible assumption) | assumption)
        have q159 : x4_1 < (l0.length : Int) := of_decide_eq_true (by first | (with_reducible assumption) | assumption)
        obtain ⟨ad159, e159, hx159_0, hx159_1⟩ := at_T176 HR0.out x4_1 p159 q159
        cases e159
        replace hx159_0 := (HB.out.cell (World.block_lt_of_cell? w _ hx159_0)).trans hx159_0
        replace hx159_1 := (HB.out.cell (World.block_lt_of_cell? w _ hx159_1)).trans hx159_1
        replace p159 := eq_true p159
        replace q159 := eq_true q159
        go_upto_region 6 with (first | ((with_reducible refine gate_dst (N := 5) rfl ?_); refine box_event ?hg (N := 5) ?hd (cs := #[.int .i64 0, .int .i64 0]) (t := 176) ?hr ?_; (case hd => rfl); (case hg => rfl); (case hr => first | (go_simp; done) | (go_simp; rfl)); intro gb160 hg w8 hbox hb; have n0_ := Aside0.mk (Kd.R_below (Kd.R_elderB (by (with_reducible repeat (first | apply Kd.R_alloc | apply Kd.R_drewN | apply Kd.R_drew)); exact HO_3.out) gb160 (Nat.le_of_eq hg.symm)) hb); have n1_ := Aside0.mk (below_step (by repeat (first | (with_reducible first | exact HB.out | apply below_alloc | apply pw_below_drewN | apply below_drew1) | exact HB.out)) hb); have n2_ := Aside0.mk (hbox); have n3_ := Aside0.mk ((by rw [hg]; exact (below_size (by repeat (first | (with_reducible first | exact HB.out | apply below_alloc | apply pw_below_drewN | apply below_drew1) | exact HB.out))) : w.heap.size ≤ gb160)); have n4_ := Aside0.mk ((by rw [hg]; exact (below_size (by repeat (first | (with_reducible first | exact HB.out | apply below_alloc | apply pw_below_drewN | apply below_drew1) | exact HB.out))) : w.heap.size ≤ gb160)); clear HO_3; clear HB; have HO_3 := n0_; have HB := n1_; have BK160 := n2_; have GW160 := n3_; have GE160 := n4_; clear n0_ n1_ n2_ n3_ n4_; clear hb hbox hg; obtain ⟨hcz9_0, hcz9_1, hfz9_0, hfz9_1⟩ := blk_all2 BK160.out))
        (try simp only [Act.put, List.setIfInBounds_toArray, List.set_cons_zero, List.set_cons_succ])
        go_cut [34] (fun v34 wc => ∃ (kq : Nat) (x34_6 : Bool), v34 = .bool x34_6 ∧ Aside0 (stopgateref03_Fix.j2 kq l0 x3_1 x4_1 x34_6 (-1) (wrap64 (Int.tmod (IntKind.u64.wrap ((rd_T176 l0 x4_1).f1)) 4611686018427387905)) = some r) ∧ Aside0 (kq ≤ kj1) ∧ Aside0 (Kd.R k176 176 wc w.heap.size (fun k_ => k_ ≠ gb160) u3 x3_1) ∧ Aside0 (wc.heap[gb160]? = some (.cells #[.int .i64 (-1), .int .i64 (wrap64 (Int.tmod (IntKind.u64.wrap ((rd_T176 l0 x4_1).f1)) 4611686018427387905))] 176 (0, 0))) ∧ Aside0 (Below w.heap.size w wc))
        case first =>
         have H := HC7.out
         clear HC7
         by_cases c10 : x4_1 > 0
         ·rw [if_pos c10] at H
          have c10b0 : decide (0 < x4_1) = true := decide_eq_true c10
          clear c10
          (first | rw [c10b0] | (simp only [i64_w, i32_w]; rw [c10b0]) | skip)
          have H' := Aside0.mk H
          clear H
          have p161 : 0 ≤ (x4_1 : Int) := of_decide_eq_true (by first | (with_reducible assumption) | assumption)
          have q161 : x4_1 < (l0.length : Int) := of_decide_eq_true (by first | (with_reducible assumption) | assumption)
          obtain ⟨ad161, e161, hx161_0, hx161_1⟩ := at_T176 HR0.out x4_1 p161 q161
          obtain rfl : ad159 = ad161 := (by injection e161)
          have hn161_0 : ad159.block ≠ gb160 := Nat.ne_of_lt (Nat.lt_of_lt_of_le (by have := World.block_lt_of_cell? _ _ hx161_0; first | rwa [add_block] at this | exact this) GW160.out)
          have hn161_1 : ad159.block ≠ gb160 := Nat.ne_of_lt (Nat.lt_of_lt_of_le (by have := World.block_lt_of_cell? _ _ hx161_0; first | rwa [add_block] at this | exact this) GW160.out)
          replace hx161_0 := (HB.out.cell (World.block_lt_of_cell? w _ hx161_0)).trans hx161_0
          replace hx161_1 := (HB.out.cell (World.block_lt_of_cell? w _ hx161_1)).trans hx161_1
          replace hx161_0 := (cell_far (p := ⟨gb160, 0, none⟩) (by first | (rw [add_block]; exact hn161_0) | (show (Addr.add _ _).block ≠ _; rw [add_block]; exact hn161_0) | exact hn161_0) (.int .i64 (-1))).trans hx161_0
          replace hx161_1 := (cell_far (p := ⟨gb160, 0, none⟩) (by first | (rw [add_block]; exact hn161_0) | (show (Addr.add _ _).block ≠ _; rw [add_block]; exact hn161_0) | exact hn161_0) (.int .i64 (-1))).trans hx161_1
          replace hx161_0 := (cell_far (p := ⟨gb160, 1, none⟩) (by first | (rw [add_block]; exact hn161_1) | (show (Addr.add _ _).block ≠ _; rw [add_block]; exact hn161_1) | exact hn161_1) (.int .i64 (wrap64 (Int.tmod (IntKind.u64.wrap ((rd_T176 l0 x4_1).f1)) 4611686018427387905)))).trans hx161_0
          replace hx161_1 := (cell_far (p := ⟨gb160, 1, none⟩) (by first | (rw [add_block]; exact hn161_1) | (show (Addr.add _ _).block ≠ _; rw [add_block]; exact hn161_1) | exact hn161_1) (.int .i64 (wrap64 (Int.tmod (IntKind.u64.wrap ((rd_T176 l0 x4_1).f1)) 4611686018427387905)))).trans hx161_1
          clear hn161_0
          clear hn161_1
          replace p161 := eq_true p161
          replace q161 := eq_true q161
          go_wp2
          go_meet
          case rel => exact ⟨_, (decide (((rd_T176 l0 x4_1).f0) ≥ 0)), (by first | rfl | (simp; done) | (simp [*]; done)), H', ⟨by have := HK1.out; have := HJ1.out; first | omega | exact Nat.le_refl _⟩, ⟨by (with_reducible repeat (first | apply Kd.R_alloc | apply Kd.R_drewN | apply Kd.R_drew)); exact Kd.R_mono (Kd.R_far (p := ⟨gb160, 1, none⟩) (Kd.R_far (p := ⟨gb160, 0, none⟩) (Kd.R_mono HO_3.out (fun k_ hk => (⟨hk, hk.2⟩ : _ ∧ k_ ≠ gb160))) (fun _ hk => hk.2) (.int .i64 (-1))) (fun _ hk => hk.2) (.int .i64 (wrap64 (Int.tmod (IntKind.u64.wrap ((rd_T176 l0 x4_1).f1)) 4611686018427387905)))) (fun _ hk => hk.1.2)⟩, ⟨by (with_reducible repeat (first | refine blk_drewN ?_ _ | refine blk_drew ?_ | refine blk_alloc ?_ _)); refine blk_put (cs := #[.int .i64 (-1), .int .i64 0]) ?_ 1 _ rfl; (with_reducible repeat (first | refine blk_drewN ?_ _ | refine blk_drew ?_ | refine blk_alloc ?_ _)); refine blk_put (cs := #[.int .i64 0, .int .i64 0]) ?_ 0 _ rfl; (with_reducible repeat (first | refine blk_drewN ?_ _ | refine blk_drew ?_ | refine blk_alloc ?_ _)); exact BK160.out⟩, ⟨by repeat (first | (with_reducible first | exact HB.out | apply below_alloc | apply pw_below_drewN | apply below_drew1 | refine below_set ?_ GE160.out) | exact HB.out)⟩⟩
         ·rw [if_neg c10] at H
          have c10b0 : decide (0 < x4_1) = false := decide_eq_false c10
          clear c10
          (first | rw [c10b0] | (simp only [i64_w, i32_w]; rw [c10b0]) | skip)
          have H' := Aside0.mk H
          clear H
          go_wp2
          go_meet
          case rel => exact ⟨_, (false), (by first | rfl | (simp; done) | (simp [*]; done)), H', ⟨by have := HK1.out; have := HJ1.out; first | omega | exact Nat.le_refl _⟩, ⟨by (with_reducible repeat (first | apply Kd.R_alloc | apply Kd.R_drewN | apply Kd.R_drew)); exact Kd.R_mono (Kd.R_far (p := ⟨gb160, 1, none⟩) (Kd.R_far (p := ⟨gb160, 0, none⟩) (Kd.R_mono HO_3.out (fun k_ hk => (⟨hk, hk.2⟩ : _ ∧ k_ ≠ gb160))) (fun _ hk => hk.2) (.int .i64 (-1))) (fun _ hk => hk.2) (.int .i64 (wrap64 (Int.tmod (IntKind.u64.wrap ((rd_T176 l0 x4_1).f1)) 4611686018427387905)))) (fun _ hk => hk.1.2)⟩, ⟨by (with_reducible repeat (first | refine blk_drewN ?_ _ | refine blk_drew ?_ | refine blk_alloc ?_ _)); refine blk_put (cs := #[.int .i64 (-1), .int .i64 0]) ?_ 1 _ rfl; (with_reducible repeat (first | refine blk_drewN ?_ _ | refine blk_drew ?_ | refine blk_alloc ?_ _)); refine blk_put (cs := #[.int .i64 0, .int .i64 0]) ?_ 0 _ rfl; (with_reducible repeat (first | refine blk_drewN ?_ _ | refine blk_drew ?_ | refine blk_alloc ?_ _)); exact BK160.out⟩, ⟨by repeat (first | (with_reducible first | exact HB.out | apply below_alloc | apply pw_below_drewN | apply below_drew1 | refine below_set ?_ GE160.out) | exact HB.out)⟩⟩
        case rest =>
         clear HC7
         try clear c1
         try clear p1
         try clear q1
         try clear hx1
         try clear p2
         try clear c3
         try clear c3b0
         try clear c4
         try clear c5
         try clear c5b0
         try clear c6
         try clear c6b0
         try clear p6
         try clear c7
         try clear c10
         try clear c10b0
         try clear hcz9_0
         try clear hcz9_1
         try clear hfz9_0
         try clear hfz9_1
         try clear hx159_0
         try clear hx159_1
         try clear hx161_0
         try clear hx161_1
         try clear p159
         try clear p161
         try clear p2
         try clear q159
         try clear q161
         obtain ⟨kq, x34_6, rfl, HA, HJ6, HO_3, BK160, HB⟩ := hcut
         cases kq with
         | zero => exact absurd HA.out (by simp [stopgateref03_Fix.j2])
         | succ kj6 =>
          have H := HA.out
          clear HA
          simp only [stopgateref03_Fix.j2] at H
          by_cases c11 : x34_6 = true
          ·subst c11
           have H1 : (if 0 ≤ x4_1 then (if x4_1 < (l0.length : Int) then (if x4_1 = 0 then (none) else ((stopgateref03_Path.f kj6 x3_1 (Int.tmod ((rd_T176 l0 x4_1).f0) x4_1)).bind fun t163 => (if (t163.length : Int) ≥ 3 then (if x3_1.length < 8796093022208 then (stopgateref03_Fix.l0 kj6 l0 (x3_1 ++ [(⟨(-1), (wrap64 (Int.tmod (IntKind.u64.wrap ((rd_T176 l0 x4_1).f1)) 4611686018427387905))⟩ : S176)]) (wrap64 (x4_1 + 1))) else (none)) else (if x3_1.length < 8796093022208 then (stopgateref03_Fix.l0 kj6 l0 (x3_1 ++ [(⟨Int.tmod ((rd_T176 l0 x4_1).f0) x4_1, (wrap64 (Int.tmod (IntKind.u64.wrap ((rd_T176 l0 x4_1).f1)) 4611686018427387905))⟩ : S176)]) (wrap64 (x4_1 + 1))) else (none))))) else (none)) else (none)) = some r := by rw [if_pos rfl] at H; exact H
           clear H
           have H := H1
           clear H1
           by_cases c12 : 0 ≤ x4_1
           ·rw [if_pos c12] at H
            have c12b0 : decide (0 ≤ x4_1) = true := decide_eq_true c12
            clear c12
            by_cases c13 : x4_1 < (l0.length : Int)
            ·rw [if_pos c13] at H
             have c13b0 : decide (x4_1 < (l0.length : Int)) = true := decide_eq_true c13
             clear c13
             by_cases c14 : x4_1 = 0
             ·rw [if_pos c14] at H
              exact absurd H (by simp)
             ·rw [if_neg c14] at H
              have c14b0 : (x4_1 == 0) = false := beq_eq_false_iff_ne.mpr c14
              have c14b1 : (x4_1 != 0) = true := bne_iff_ne.mpr c14
              replace H := Option.bind_eq_some_iff.mp H
              obtain ⟨t163, A150, H⟩ := H
              replace H : (if (t163.length : Int) ≥ 3 then (if x3_1.length < 8796093022208 then (stopgateref03_Fix.l0 kj6 l0 (x3_1 ++ [(⟨(-1), (wrap64 (Int.tmod (IntKind.u64.wrap ((rd_T176 l0 x4_1).f1)) 4611686018427387905))⟩ : S176)]) (wrap64 (x4_1 + 1))) else (none)) else (if x3_1.length < 8796093022208 then (stopgateref03_Fix.l0 kj6 l0 (x3_1 ++ [(⟨Int.tmod ((rd_T176 l0 x4_1).f0) x4_1, (wrap64 (Int.tmod (IntKind.u64.wrap ((rd_T176 l0 x4_1).f1)) 4611686018427387905))⟩ : S176)]) (wrap64 (x4_1 + 1))) else (none))) = some r := H
              have A15 := Aside0.mk A150
              clear A150
              by_cases c16 : (t163.length : Int) ≥ 3
              ·rw [if_pos c16] at H
               have c16b0 : decide (3 ≤ (t163.length : Int)) = true := decide_eq_true c16
               have c16b1 : decide (3 ≤ t163.length) = true := decide_eq_true (by omega)
               clear c16
               by_cases c17 : x3_1.length < 8796093022208
               ·rw [if_pos c17] at H
                have LMc17 := Aside0.mk c17
                clear c17
                obtain ⟨y166, hy166⟩ : ∃ y_ : List (S176), y_ = (x3_1 ++ [(⟨(-1), (wrap64 (Int.tmod (IntKind.u64.wrap ((rd_T176 l0 x4_1).f1)) 4611686018427387905))⟩ : S176)]) := ⟨_, rfl⟩
                replace H : (stopgateref03_Fix.l0 kj6 l0 y166 (wrap64 (x4_1 + 1))) = some r := by first | (rw [hy166]; with_reducible exact H) | (have H2_ := (Option.bind_some _ _).symm.trans H; rw [hy166]; with_reducible exact H2_) | (have H2_ := (Option.bind_some _ _).symm.trans H; with_reducible exact H2_) | with_reducible exact H | (rw [hy166]; exact H) | exact H
                have Ny166 := Aside0.mk hy166
                clear hy166
                have H' := Aside0.mk H
                clear H
                have p162 : 0 ≤ (x4_1 : Int) := of_decide_eq_true (by first | (with_reducible assumption) | assumption)
                have q162 : x4_1 < (l0.length : Int) := of_decide_eq_true (by first | (with_reducible assumption) | assumption)
                obtain ⟨ad162, e162, hx162_0, hx162_1⟩ := at_T176 HR0.out x4_1 p162 q162
                obtain rfl : ad159 = ad162 := (by injection e162)
                replace hx162_0 := (HB.out.cell (World.block_lt_of_cell? w _ hx162_0)).trans hx162_0
                replace hx162_1 := (HB.out.cell (World.block_lt_of_cell? w _ hx162_1)).trans hx162_1
                replace p162 := eq_true p162
                replace q162 := eq_true q162
                obtain ⟨hcz18_0, hcz18_1, hfz18_0, hfz18_1⟩ := blk_all2 BK160.out
                obtain ⟨Ao19, co19, eo19⟩ := Kd.R_slice HO_3.out
                subst eo19
                go_wp2_with (first | ((with_reducible refine gate_callee (f := 101) rfl ?_); refine goesL_ (some 46) rfl rfl Try.func101 (by kernel_rfl) rfl #[.slice Ao19 x3_1.length co19, .int .i64 (Int.tmod ((rd_T176 l0 x4_1).f0) x4_1)] rfl (by (try simp only [List.map_toArray, List.map_cons, List.map_nil]); first | done | rfl | (simp only [List.length_drop, List.length_take]; rfl)) ?_; (with_reducible refine (stopgateref03_Path.calls kj6 _ _ x3_1 (Int.tmod ((rd_T176 l0 x4_1).f0) x4_1) t163 _ ?side1 ?side2 A15.out).mono ?_); (case side1 => refine (Kd.R_reads' (e := 176) (base := w.heap.size) (ok := fun k_ => k_ ≠ gb160) (n := x3_1.length) (c := co19) ?_).2.2; exact (by (with_reducible repeat (first | apply Kd.R_alloc | apply Kd.R_drewN | apply Kd.R_drew)); exact (Kd.R_mono (Kd.R_far (p := ⟨gb160, 0, none⟩) (Kd.R_mono HO_3.out (fun k_ hk => (⟨hk, hk⟩ : _ ∧ k_ ≠ gb160))) (fun _ hk => hk.2) (.int .i64 (Int.tmod ((rd_T176 l0 x4_1).f0) x4_1))) (fun _ h_ => h_.1)))); (case side2 => exact (Kd.R_reads' HO_3.out).2.1); rintro e w20 ⟨v164, rfl, ho0, hb⟩; refine ⟨_, rfl, ?_⟩; have n0_ := Aside0.mk (Kd.R_below (by (with_reducible repeat (first | apply Kd.R_alloc | apply Kd.R_drewN | apply Kd.R_drew)); exact (Kd.R_mono (Kd.R_far (p := ⟨gb160, 0, none⟩) (Kd.R_mono HO_3.out (fun k_ hk => (⟨hk, hk⟩ : _ ∧ k_ ≠ gb160))) (fun _ hk => hk.2) (.int .i64 (Int.tmod ((rd_T176 l0 x4_1).f0) x4_1))) (fun _ h_ => h_.1))) hb); have n1_ := Aside0.mk (Kd.R_lower ho0 (below_size (by repeat (first | (with_reducible first | exact HB.out | apply below_alloc | apply pw_below_drewN | apply below_drew1 | refine below_set ?_ GE160.out) | exact HB.out)))); have n2_ := Aside0.mk (blk_below (g := gb160) (o := .cells #[.int .i64 (Int.tmod ((rd_T176 l0 x4_1).f0) x4_1), .int .i64 (wrap64 (Int.tmod (IntKind.u64.wrap ((rd_T176 l0 x4_1).f1)) 4611686018427387905))] 176 (0, 0)) (by (with_reducible repeat (first | refine blk_drewN ?_ _ | refine blk_drew ?_ | refine blk_alloc ?_ _)); refine blk_put (cs := #[.int .i64 (-1), .int .i64 (wrap64 (Int.tmod (IntKind.u64.wrap ((rd_T176 l0 x4_1).f1)) 4611686018427387905))]) ?_ 0 _ rfl; (with_reducible repeat (first | refine blk_drewN ?_ _ | refine blk_drew ?_ | refine blk_alloc ?_ _)); exact BK160.out) hb); have n3_ := Aside0.mk (below_step (by repeat (first | (with_reducible first | exact HB.out | apply below_alloc | apply pw_below_drewN | apply below_drew1 | refine below_set ?_ GE160.out) | exact HB.out)) hb); clear HO_3; clear BK160; clear HB; have HO_3 := n0_; have HO165 := n1_; have BK160 := n2_; have HB := n3_; clear n0_ n1_ n2_ n3_; (try clear hb); (try clear hb2); (try clear hk); (try clear hi); (try clear ho0); obtain ⟨Ao21, co21, eo21⟩ := Kd.R_slice HO165.out; subst eo21; obtain ⟨hcz22_0, hcz22_1, hfz22_0, hfz22_1⟩ := blk_all2 BK160.out) | ((with_reducible refine gate_builtin (b := .append) (xs := #[.tmp 50, .tmp 52]) rfl ?_); at_builtin; refine Kd.R_append k176 (w0 := w) w.heap.size rfl (.tmp 50) (.tmp 52) 75 176 (.agg #[(.int .i64 0), (.int .i64 0)]) 16 rfl Try.underlying75 info176 rfl (by decide) (by omega) (.slice Ao19 x3_1.length co19) x3_1 (⟨(-1), (wrap64 (Int.tmod (IntKind.u64.wrap ((rd_T176 l0 x4_1).f1)) 4611686018427387905))⟩ : S176) [.int .i64 (-1), .int .i64 (wrap64 (Int.tmod (IntKind.u64.wrap ((rd_T176 l0 x4_1).f1)) 4611686018427387905))] (fun k_ => k_ ≠ gb160) (fun _ => False) rfl (by first | (go_simp; done) | (go_simp; rfl)) ?aP (fun _ hk => hk.elim) ?aF ?aO ?aB ?aS ?aL ?_; (case aP => exact k176_mkM _ _ _ (⟨(-1), (wrap64 (Int.tmod (IntKind.u64.wrap ((rd_T176 l0 x4_1).f1)) 4611686018427387905))⟩ : S176)); (case aB => exact (by repeat (first | (with_reducible first | exact HB.out | apply below_alloc | apply pw_below_drewN | apply below_drew1 | refine below_set ?_ GE160.out) | exact HB.out))); (case aF => exact (fun k_ hk => Kd.freshB (g := gb160) (o := .cells #[.int .i64 (-1), .int .i64 (wrap64 (Int.tmod (IntKind.u64.wrap ((rd_T176 l0 x4_1).f1)) 4611686018427387905))] 176 (0, 0)) (by (with_reducible repeat (first | refine blk_drewN ?_ _ | refine blk_drew ?_ | refine blk_alloc ?_ _)); refine blk_put (cs := #[.int .i64 (Int.tmod ((rd_T176 l0 x4_1).f0) x4_1), .int .i64 (wrap64 (Int.tmod (IntKind.u64.wrap ((rd_T176 l0 x4_1).f1)) 4611686018427387905))]) ?_ 0 _ rfl; (with_reducible repeat (first | refine blk_drewN ?_ _ | refine blk_drew ?_ | refine blk_alloc ?_ _)); exact BK160.out) k_ hk)); (case aO => exact (by (with_reducible repeat (first | apply Kd.R_alloc | apply Kd.R_drewN | apply Kd.R_drew)); exact Kd.R_mono (Kd.R_far (p := ⟨gb160, 0, none⟩) (Kd.R_mono HO_3.out (fun k_ hk => (⟨hk, hk⟩ : _ ∧ k_ ≠ gb160))) (fun _ hk => hk.2) (.int .i64 (-1))) (fun _ hk => hk.1))); (case aS => exact (below_size (by repeat (first | (with_reducible first | exact HB.out | apply below_alloc | apply pw_below_drewN | apply below_drew1 | refine below_set ?_ GE160.out) | exact HB.out)))); (case aL => have := LMc17.out; omega); intro v167 w23 ho hb hg hat; rw [← Ny166.out] at ho; have n0_ := Aside0.mk (blk_grown (g := gb160) (o := .cells #[.int .i64 (-1), .int .i64 (wrap64 (Int.tmod (IntKind.u64.wrap ((rd_T176 l0 x4_1).f1)) 4611686018427387905))] 176 (0, 0)) (by (with_reducible repeat (first | refine blk_drewN ?_ _ | refine blk_drew ?_ | refine blk_alloc ?_ _)); refine blk_put (cs := #[.int .i64 (Int.tmod ((rd_T176 l0 x4_1).f0) x4_1), .int .i64 (wrap64 (Int.tmod (IntKind.u64.wrap ((rd_T176 l0 x4_1).f1)) 4611686018427387905))]) ?_ 0 _ rfl; (with_reducible repeat (first | refine blk_drewN ?_ _ | refine blk_drew ?_ | refine blk_alloc ?_ _)); exact BK160.out) hg (Kd.R_away HO_3.out (fun _ hk => hk))); have n1_ := Aside0.mk (Kd.R_over' (by (with_reducible repeat (first | apply Kd.R_alloc | apply Kd.R_drewN | apply Kd.R_drew)); exact (Kd.R_mono (Kd.R_far (p := ⟨gb160, 0, none⟩) (Kd.R_types HO165.out BK160.out (by decide)) (fun _ hk => hk.2) (.int .i64 (-1))) (fun _ h_ => h_.1))) (Kd.R_typed (by (with_reducible repeat (first | apply Kd.R_alloc | apply Kd.R_drewN | apply Kd.R_drew)); exact (Kd.R_mono (Kd.R_far (p := ⟨gb160, 0, none⟩) (Kd.R_mono HO_3.out (fun k_ hk => (⟨hk, hk⟩ : _ ∧ k_ ≠ gb160))) (fun _ hk => hk.2) (.int .i64 (-1))) (fun _ h_ => h_.1)))) (by decide) hg); have n2_ := Aside0.mk (hb); have n3_ := Aside0.mk (ho); clear BK160; clear HO165; clear HB; clear HO_3; have BK160 := n0_; have HO165 := n1_; have HB := n2_; have HO168 := n3_; clear n0_ n1_ n2_ n3_; clear ho hb hg hat))
                go_roundg kj6
                case measure => have := HK1.out; have := HJ1.out; have := HJ6.out; omega
                case rel => exact ⟨(y166), (wrap64 (x4_1 + 1)), (by first | rfl | (simp; done) | (simp [*]; done)), H', ⟨by have := HK1.out; have := HJ1.out; have := HJ6.out; omega⟩, ⟨by (with_reducible repeat (first | apply Kd.R_alloc | apply Kd.R_drewN | apply Kd.R_drew)); exact Kd.R_mono HO168.out (fun _ hk => trivial)⟩, ⟨by repeat (first | (with_reducible first | exact HB.out | apply below_alloc | apply pw_below_drewN | apply below_drew1 | refine below_set ?_ GE160.out) | exact HB.out)⟩⟩
               ·rw [if_neg c17] at H
                exact absurd H (by simp)
              ·rw [if_neg c16] at H
               have c16b0 : decide (3 ≤ (t163.length : Int)) = false := decide_eq_false c16
               have c16b1 : decide (3 ≤ t163.length) = false := decide_eq_false (by omega)
               clear c16
               by_cases c24 : x3_1.length < 8796093022208
               ·rw [if_pos c24] at H
                have LMc24 := Aside0.mk c24
                clear c24
                obtain ⟨y169, hy169⟩ : ∃ y_ : List (S176), y_ = (x3_1 ++ [(⟨Int.tmod ((rd_T176 l0 x4_1).f0) x4_1, (wrap64 (Int.tmod (IntKind.u64.wrap ((rd_T176 l0 x4_1).f1)) 4611686018427387905))⟩ : S176)]) := ⟨_, rfl⟩
                replace H : (stopgateref03_Fix.l0 kj6 l0 y169 (wrap64 (x4_1 + 1))) = some r := by first | (rw [hy169]; with_reducible exact H) | (have H2_ := (Option.bind_some _ _).symm.trans H; rw [hy169]; with_reducible exact H2_) | (have H2_ := (Option.bind_some _ _).symm.trans H; with_reducible exact H2_) | with_reducible exact H | (rw [hy169]; exact H) | exact H
                have Ny169 := Aside0.mk hy169
                clear hy169
                have H' := Aside0.mk H
                clear H
                have p162 : 0 ≤ (x4_1 : Int) := of_decide_eq_true (by first | (with_reducible assumption) | assumption)
                have q162 : x4_1 < (l0.length : Int) := of_decide_eq_true (by first | (with_reducible assumption) | assumption)
                obtain ⟨ad162, e162, hx162_0, hx162_1⟩ := at_T176 HR0.out x4_1 p162 q162
                obtain rfl : ad159 = ad162 := (by injection e162)
                replace hx162_0 := (HB.out.cell (World.block_lt_of_cell? w _ hx162_0)).trans hx162_0
                replace hx162_1 := (HB.out.cell (World.block_lt_of_cell? w _ hx162_1)).trans hx162_1
                replace p162 := eq_true p162
                replace q162 := eq_true q162
                obtain ⟨hcz25_0, hcz25_1, hfz25_0, hfz25_1⟩ := blk_all2 BK160.out
                obtain ⟨Ao26, co26, eo26⟩ := Kd.R_slice HO_3.out
                subst eo26
                go_wp2_with (first | ((with_reducible refine gate_callee (f := 101) rfl ?_); refine goesL_ (some 46) rfl rfl Try.func101 (by kernel_rfl) rfl #[.slice Ao26 x3_1.length co26, .int .i64 (Int.tmod ((rd_T176 l0 x4_1).f0) x4_1)] rfl (by (try simp only [List.map_toArray, List.map_cons, List.map_nil]); first | done | rfl | (simp only [List.length_drop, List.length_take]; rfl)) ?_; (with_reducible refine (stopgateref03_Path.calls kj6 _ _ x3_1 (Int.tmod ((rd_T176 l0 x4_1).f0) x4_1) t163 _ ?side1 ?side2 A15.out).mono ?_); (case side1 => refine (Kd.R_reads' (e := 176) (base := w.heap.size) (ok := fun k_ => k_ ≠ gb160) (n := x3_1.length) (c := co26) ?_).2.2; exact (by (with_reducible repeat (first | apply Kd.R_alloc | apply Kd.R_drewN | apply Kd.R_drew)); exact (Kd.R_mono (Kd.R_far (p := ⟨gb160, 0, none⟩) (Kd.R_mono HO_3.out (fun k_ hk => (⟨hk, hk⟩ : _ ∧ k_ ≠ gb160))) (fun _ hk => hk.2) (.int .i64 (Int.tmod ((rd_T176 l0 x4_1).f0) x4_1))) (fun _ h_ => h_.1)))); (case side2 => exact (Kd.R_reads' HO_3.out).2.1); rintro e w27 ⟨v164, rfl, ho0, hb⟩; refine ⟨_, rfl, ?_⟩; have n0_ := Aside0.mk (Kd.R_below (by (with_reducible repeat (first | apply Kd.R_alloc | apply Kd.R_drewN | apply Kd.R_drew)); exact (Kd.R_mono (Kd.R_far (p := ⟨gb160, 0, none⟩) (Kd.R_mono HO_3.out (fun k_ hk => (⟨hk, hk⟩ : _ ∧ k_ ≠ gb160))) (fun _ hk => hk.2) (.int .i64 (Int.tmod ((rd_T176 l0 x4_1).f0) x4_1))) (fun _ h_ => h_.1))) hb); have n1_ := Aside0.mk (Kd.R_lower ho0 (below_size (by repeat (first | (with_reducible first | exact HB.out | apply below_alloc | apply pw_below_drewN | apply below_drew1 | refine below_set ?_ GE160.out) | exact HB.out)))); have n2_ := Aside0.mk (blk_below (g := gb160) (o := .cells #[.int .i64 (Int.tmod ((rd_T176 l0 x4_1).f0) x4_1), .int .i64 (wrap64 (Int.tmod (IntKind.u64.wrap ((rd_T176 l0 x4_1).f1)) 4611686018427387905))] 176 (0, 0)) (by (with_reducible repeat (first | refine blk_drewN ?_ _ | refine blk_drew ?_ | refine blk_alloc ?_ _)); refine blk_put (cs := #[.int .i64 (-1), .int .i64 (wrap64 (Int.tmod (IntKind.u64.wrap ((rd_T176 l0 x4_1).f1)) 4611686018427387905))]) ?_ 0 _ rfl; (with_reducible repeat (first | refine blk_drewN ?_ _ | refine blk_drew ?_ | refine blk_alloc ?_ _)); exact BK160.out) hb); have n3_ := Aside0.mk (below_step (by repeat (first | (with_reducible first | exact HB.out | apply below_alloc | apply pw_below_drewN | apply below_drew1 | refine below_set ?_ GE160.out) | exact HB.out)) hb); clear HO_3; clear BK160; clear HB; have HO_3 := n0_; have HO165 := n1_; have BK160 := n2_; have HB := n3_; clear n0_ n1_ n2_ n3_; (try clear hb); (try clear hb2); (try clear hk); (try clear hi); (try clear ho0); obtain ⟨Ao28, co28, eo28⟩ := Kd.R_slice HO165.out; subst eo28; obtain ⟨hcz29_0, hcz29_1, hfz29_0, hfz29_1⟩ := blk_all2 BK160.out) | ((with_reducible refine gate_builtin (b := .append) (xs := #[.tmp 50, .tmp 52]) rfl ?_); at_builtin; refine Kd.R_append k176 (w0 := w) w.heap.size rfl (.tmp 50) (.tmp 52) 75 176 (.agg #[(.int .i64 0), (.int .i64 0)]) 16 rfl Try.underlying75 info176 rfl (by decide) (by omega) (.slice Ao26 x3_1.length co26) x3_1 (⟨Int.tmod ((rd_T176 l0 x4_1).f0) x4_1, (wrap64 (Int.tmod (IntKind.u64.wrap ((rd_T176 l0 x4_1).f1)) 4611686018427387905))⟩ : S176) [.int .i64 (Int.tmod ((rd_T176 l0 x4_1).f0) x4_1), .int .i64 (wrap64 (Int.tmod (IntKind.u64.wrap ((rd_T176 l0 x4_1).f1)) 4611686018427387905))] (fun k_ => k_ ≠ gb160) (fun _ => False) rfl rfl ?aP (fun _ hk => hk.elim) ?aF ?aO ?aB ?aS ?aL ?_; (case aP => exact k176_mkM _ _ _ (⟨Int.tmod ((rd_T176 l0 x4_1).f0) x4_1, (wrap64 (Int.tmod (IntKind.u64.wrap ((rd_T176 l0 x4_1).f1)) 4611686018427387905))⟩ : S176)); (case aB => exact (by repeat (first | (with_reducible first | exact HB.out | apply below_alloc | apply pw_below_drewN | apply below_drew1 | refine below_set ?_ GE160.out) | exact HB.out))); (case aF => exact (fun k_ hk => Kd.freshB (g := gb160) (o := .cells #[.int .i64 (Int.tmod ((rd_T176 l0 x4_1).f0) x4_1), .int .i64 (wrap64 (Int.tmod (IntKind.u64.wrap ((rd_T176 l0 x4_1).f1)) 4611686018427387905))] 176 (0, 0)) (by (with_reducible repeat (first | refine blk_drewN ?_ _ | refine blk_drew ?_ | refine blk_alloc ?_ _)); exact BK160.out) k_ hk)); (case aO => exact (by (with_reducible repeat (first | apply Kd.R_alloc | apply Kd.R_drewN | apply Kd.R_drew)); exact HO_3.out)); (case aS => exact (below_size (by repeat (first | (with_reducible first | exact HB.out | apply below_alloc | apply pw_below_drewN | apply below_drew1 | refine below_set ?_ GE160.out) | exact HB.out)))); (case aL => have := LMc24.out; omega); intro v170 w30 ho hb hg hat; rw [← Ny169.out] at ho; have n0_ := Aside0.mk (blk_grown (g := gb160) (o := .cells #[.int .i64 (Int.tmod ((rd_T176 l0 x4_1).f0) x4_1), .int .i64 (wrap64 (Int.tmod (IntKind.u64.wrap ((rd_T176 l0 x4_1).f1)) 4611686018427387905))] 176 (0, 0)) (by (with_reducible repeat (first | refine blk_drewN ?_ _ | refine blk_drew ?_ | refine blk_alloc ?_ _)); exact BK160.out) hg (Kd.R_away HO_3.out (fun _ hk => hk))); have n1_ := Aside0.mk (Kd.R_over' (by (with_reducible repeat (first | apply Kd.R_alloc | apply Kd.R_drewN | apply Kd.R_drew)); exact HO165.out) (Kd.R_typed (by (with_reducible repeat (first | apply Kd.R_alloc | apply Kd.R_drewN | apply Kd.R_drew)); exact HO_3.out)) (by decide) hg); have n2_ := Aside0.mk (hb); have n3_ := Aside0.mk (ho); clear BK160; clear HO165; clear HB; clear HO_3; have BK160 := n0_; have HO165 := n1_; have HB := n2_; have HO171 := n3_; clear n0_ n1_ n2_ n3_; clear ho hb hg hat))
                go_roundg kj6
                case measure => have := HK1.out; have := HJ1.out; have := HJ6.out; omega
                case rel => exact ⟨(y169), (wrap64 (x4_1 + 1)), (by first | rfl | (simp; done) | (simp [*]; done)), H', ⟨by have := HK1.out; have := HJ1.out; have := HJ6.out; omega⟩, ⟨by (with_reducible repeat (first | apply Kd.R_alloc | apply Kd.R_drewN | apply Kd.R_drew)); exact Kd.R_mono HO171.out (fun _ hk => trivial)⟩, ⟨by repeat (first | (with_reducible first | exact HB.out | apply below_alloc | apply pw_below_drewN | apply below_drew1 | refine below_set ?_ GE160.out) | exact HB.out)⟩⟩
               ·rw [if_neg c24] at H
                exact absurd H (by simp)
            ·rw [if_neg c13] at H
             exact absurd H (by simp)
           ·rw [if_neg c12] at H
            exact absurd H (by simp)
          ·replace c11 := Bool.eq_false_iff.mpr c11
           subst c11
           have H1 : (if x3_1.length < 8796093022208 then (stopgateref03_Fix.l0 kj6 l0 (x3_1 ++ [(⟨(-1), (wrap64 (Int.tmod (IntKind.u64.wrap ((rd_T176 l0 x4_1).f1)) 4611686018427387905))⟩ : S176)]) (wrap64 (x4_1 + 1))) else (none)) = some r := by rw [if_neg (show ¬ (false = true) by decide)] at H; exact H
           clear H
           have H := H1
           clear H1
           by_cases c31 : x3_1.length < 8796093022208
           ·rw [if_pos c31] at H
            have LMc31 := Aside0.mk c31
            clear c31
            obtain ⟨y172, hy172⟩ : ∃ y_ : List (S176), y_ = (x3_1 ++ [(⟨(-1), (wrap64 (Int.tmod (IntKind.u64.wrap ((rd_T176 l0 x4_1).f1)) 4611686018427387905))⟩ : S176)]) := ⟨_, rfl⟩
            replace H : (stopgateref03_Fix.l0 kj6 l0 y172 (wrap64 (x4_1 + 1))) = some r := by first | (rw [hy172]; with_reducible exact H) | (have H2_ := (Option.bind_some _ _).symm.trans H; rw [hy172]; with_reducible exact H2_) | (have H2_ := (Option.bind_some _ _).symm.trans H; with_reducible exact H2_) | with_reducible exact H | (rw [hy172]; exact H) | exact H
            have Ny172 := Aside0.mk hy172
            clear hy172
            have H' := Aside0.mk H
            clear H
            obtain ⟨hcz32_0, hcz32_1, hfz32_0, hfz32_1⟩ := blk_all2 BK160.out
            go_wp2_with (first | ((with_reducible refine gate_builtin (b := .append) (xs := #[.tmp 50, .tmp 52]) rfl ?_); at_builtin; refine Kd.R_append k176 (w0 := w) w.heap.size rfl (.tmp 50) (.tmp 52) 75 176 (.agg #[(.int .i64 0), (.int .i64 0)]) 16 rfl Try.underlying75 info176 rfl (by decide) (by omega) u3 x3_1 (⟨(-1), (wrap64 (Int.tmod (IntKind.u64.wrap ((rd_T176 l0 x4_1).f1)) 4611686018427387905))⟩ : S176) [.int .i64 (-1), .int .i64 (wrap64 (Int.tmod (IntKind.u64.wrap ((rd_T176 l0 x4_1).f1)) 4611686018427387905))] (fun k_ => k_ ≠ gb160) (fun _ => False) rfl rfl ?aP (fun _ hk => hk.elim) ?aF ?aO ?aB ?aS ?aL ?_; (case aP => exact k176_mkM _ _ _ (⟨(-1), (wrap64 (Int.tmod (IntKind.u64.wrap ((rd_T176 l0 x4_1).f1)) 4611686018427387905))⟩ : S176)); (case aB => exact (by repeat (first | (with_reducible first | exact HB.out | apply below_alloc | apply pw_below_drewN | apply below_drew1 | refine below_set ?_ GE160.out) | exact HB.out))); (case aF => exact (fun k_ hk => Kd.freshB (g := gb160) (o := .cells #[.int .i64 (-1), .int .i64 (wrap64 (Int.tmod (IntKind.u64.wrap ((rd_T176 l0 x4_1).f1)) 4611686018427387905))] 176 (0, 0)) (by (with_reducible repeat (first | refine blk_drewN ?_ _ | refine blk_drew ?_ | refine blk_alloc ?_ _)); exact BK160.out) k_ hk)); (case aO => exact (by (with_reducible repeat (first | apply Kd.R_alloc | apply Kd.R_drewN | apply Kd.R_drew)); exact HO_3.out)); (case aS => exact (below_size (by repeat (first | (with_reducible first | exact HB.out | apply below_alloc | apply pw_below_drewN | apply below_drew1 | refine below_set ?_ GE160.out) | exact HB.out)))); (case aL => have := LMc31.out; omega); intro v173 w33 ho hb hg hat; rw [← Ny172.out] at ho; have n0_ := Aside0.mk (blk_grown (g := gb160) (o := .cells #[.int .i64 (-1), .int .i64 (wrap64 (Int.tmod (IntKind.u64.wrap ((rd_T176 l0 x4_1).f1)) 4611686018427387905))] 176 (0, 0)) (by (with_reducible repeat (first | refine blk_drewN ?_ _ | refine blk_drew ?_ | refine blk_alloc ?_ _)); exact BK160.out) hg (Kd.R_away HO_3.out (fun _ hk => hk))); have n1_ := Aside0.mk (hb); have n2_ := Aside0.mk (ho); clear BK160; clear HB; clear HO_3; have BK160 := n0_; have HB := n1_; have HO174 := n2_; clear n0_ n1_ n2_; clear ho hb hg hat))
            go_roundg kj6
            case measure => have := HK1.out; have := HJ1.out; have := HJ6.out; omega
            case rel => exact ⟨(y172), (wrap64 (x4_1 + 1)), (by first | rfl | (simp; done) | (simp [*]; done)), H', ⟨by have := HK1.out; have := HJ1.out; have := HJ6.out; omega⟩, ⟨by (with_reducible repeat (first | apply Kd.R_alloc | apply Kd.R_drewN | apply Kd.R_drew)); exact Kd.R_mono HO174.out (fun _ hk => trivial)⟩, ⟨by repeat (first | (with_reducible first | exact HB.out | apply below_alloc | apply pw_below_drewN | apply below_drew1 | refine below_set ?_ GE160.out) | exact HB.out)⟩⟩
           ·rw [if_neg c31] at H
            exact absurd H (by simp)
       ·rw [if_neg c6] at H
        exact absurd H (by simp)
      ·rw [if_neg c5] at H
       exact absurd H (by simp)
     ·replace c4 := Bool.eq_false_iff.mpr c4
      subst c4
      have H1 : (if (x3_1.length : Int) = 0 then (some (([(⟨(-1), 1000⟩ : S176)] : List (S176)))) else (some x3_1)) = some r := by rw [if_neg (show ¬ (false = true) by decide)] at H; exact H
      clear H
      have H := H1
      clear H1
      by_cases c34 : (x3_1.length : Int) = 0
      ·rw [if_pos c34] at H
       have c34b0 : ((x3_1.length : Int) == 0) = true := beq_iff_eq.mpr c34
       have c34b1 : ((x3_1.length : Int) != 0) = false := bne_eq_false_iff_eq.mpr c34
       clear c34
       obtain ⟨y156, hy156⟩ : ∃ y_ : List (S176), y_ = (([(⟨(-1), 1000⟩ : S176)] : List (S176))) := ⟨_, rfl⟩
       replace H : (some y156) = some r := by first | (rw [hy156]; with_reducible exact H) | (have H2_ := (Option.bind_some _ _).symm.trans H; rw [hy156]; with_reducible exact H2_) | (have H2_ := (Option.bind_some _ _).symm.trans H; with_reducible exact H2_) | with_reducible exact H | (rw [hy156]; exact H) | exact H
       have Ny156 := Aside0.mk hy156
       clear hy156
       obtain rfl := Option.some.inj H
       obtain ⟨Ao35, co35, eo35⟩ := Kd.R_slice HO_3.out
       subst eo35
       go_wp2_with (first | ((with_reducible refine gate_dst (N := 58) rfl ?_); refine Kd.R_lit k176 _ 176 ?hg (N := 58) ?hd (xs := ([(⟨(-1), 1000⟩ : S176)] : List (S176))) (inner := [.int .i64 (-1), .int .i64 1000]) (ok := fun _ => True) (okp := fun _ => True) ?hr ?hp (fun _ hk => hk) trivial (Below.refl _ _) (Nat.le_refl _) (by simp) ?_; (case hd => rfl); (case hg => rfl); (case hr => first | (go_simp; done) | (go_simp; rfl)); (case hp => exact (Reps.c2 (show Kd.M k176 _ _ _ (⟨(-1), 1000⟩ : S176) [.int .i64 (-1), .int .i64 1000] from (k176_mkM _ _ _ (⟨(-1), 1000⟩ : S176) )) (Reps.none _ _))); intro v157 w36 ho37 hb hg_ hnew_; clear hg_ hnew_; (first | rw [← Ny156.out] at ho37 | (simp only [Int.reduceToNat] at ho37; rw [← Ny156.out] at ho37)); have n0_ := Aside0.mk (Kd.R_elder' (by (with_reducible repeat (first | apply Kd.R_alloc | apply Kd.R_drewN | apply Kd.R_drew)); exact HO_3.out) (Kd.R_base ho37) hb); have n1_ := Aside0.mk (Kd.R_lower (Kd.R_new' ho37 (Kd.R_lt (by (with_reducible repeat (first | apply Kd.R_alloc | apply Kd.R_drewN | apply Kd.R_drew)); exact HO_3.out))) (below_size (by repeat (first | (with_reducible first | exact HB.out | apply below_alloc | apply pw_below_drewN | apply below_drew1) | exact HB.out)))); have n2_ := Aside0.mk (below_step (by repeat (first | (with_reducible first | exact HB.out | apply below_alloc | apply pw_below_drewN | apply below_drew1) | exact HB.out)) hb); clear HO_3; clear HB; have HO_3 := n0_; have HO158 := n1_; have HB := n2_; clear n0_ n1_ n2_; clear hb ho37))
       go_ret
       exact ⟨_, by first | rfl | (simp [errW_none, errW_some] <;> rfl) | (simp [*, errW_none, errW_some] <;> rfl), by (with_reducible repeat (first | apply Kd.R_alloc | apply Kd.R_drewN | apply Kd.R_drew)); exact Kd.R_mono HO158.out (fun _ hk => trivial), by repeat (first | (with_reducible first | exact HB.out | apply below_alloc | apply pw_below_drewN | apply below_drew1) | exact HB.out)⟩
      ·rw [if_neg c34] at H
       have c34b0 : ((x3_1.length : Int) == 0) = false := beq_eq_false_iff_ne.mpr c34
       have c34b1 : ((x3_1.length : Int) != 0) = true := bne_iff_ne.mpr c34
       have c34b2 : ¬ (x3_1 = []) := fun h_ => c34 (by rw [h_]; rfl)
       obtain rfl := Option.some.inj H
       obtain ⟨Ao38, co38, eo38⟩ := Kd.R_slice HO_3.out
       subst eo38
       go_wp2
       go_ret
       exact ⟨_, by first | rfl | (simp [errW_none, errW_some] <;> rfl) | (simp [*, errW_none, errW_some] <;> rfl), by (with_reducible repeat (first | apply Kd.R_alloc | apply Kd.R_drewN | apply Kd.R_drew)); exact HO_3.out, by repeat (first | (with_reducible first | exact HB.out | apply below_alloc | apply pw_below_drewN | apply below_drew1) | exact HB.out)⟩

/-! ### stopgateref02_Right: function 75 -/
def stopgateref02_Right.f (a0 : Nat) : Option (Bool) := some (FloatKind.f64.format.order a0 0 == some .gt || FloatKind.f64.format.order a0 0 == some .eq)
set_option maxHeartbeats 8000000 in
set_option maxRecDepth 100000 in
theorem stopgateref02_Right.calls (a0 : Nat) (r : Bool) (w : World) (h : stopgateref02_Right.f a0 = some r) :
  Calls Try.prog 75 #[.float .f64 a0] w fun e w' => e = .returned (.bool r) ∧ Drawn0 w w' := by
 have H : (some (FloatKind.f64.format.order a0 0 == some .gt || FloatKind.f64.format.order a0 0 == some .eq)) = some r := h
 clear h
 obtain rfl := Option.some.inj H
 go_enter Try.func75, Try.ntmps75
 go_wp2
 go_ret
 exact ⟨by first | rfl | (simp; done) | (simp [*]; done), by repeat (first | exact Drawn0.refl _ | apply Drawn0.step)⟩

end Go.Proofs.Ytgikjgekdeaneaa.QRulesChecks
