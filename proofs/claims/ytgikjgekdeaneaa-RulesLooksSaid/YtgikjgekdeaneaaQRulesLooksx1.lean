/- Printed by wip/gen/myprint.py, a program of this session, for this claim: functions of the program as Lean functions, each with a proof that the Go code comes to its answers. -/
import Derived.Test.YtgikjgekdeaneaaQRulesLooksx0
namespace Go.Proofs.Ytgikjgekdeaneaa.QRulesLooks
open Go.RowKit Go.Proofs.YtgikjgekdeaneaaW.PrintWords Go.Proofs.YtgikjgekdeaneaaW.PrintLast Go.Proofs.YtgikjgekdeaneaaW.PrintMore
attribute [local go_sem] max2_int min2_int max_two min_two max_three min_three max_four min_four   -- for this text's walks alone
set_option linter.unusedVariables false
set_option linter.unusedSimpArgs false

attribute [local go_sem] run_store_flt
/-! ### stopgateref03_climb: function 114 -/
mutual
def stopgateref03_climb.l0 : Nat → List (S176) → Int → List Int → Option (List Int × Bool)
 | 0, _, _, _ => none
 | k + 1, x0, x1, x6 => if x1 ≥ 0 then (stopgateref03_climb.j1 k x0 x1 x6 (decide (x1 < (x0.length : Int)))) else (stopgateref03_climb.j1 k x0 x1 x6 false)
def stopgateref03_climb.j1 : Nat → List (S176) → Int → List Int → Bool → Option (List Int × Bool)
 | 0, _, _, _, _ => none
 | k + 1, x0, x1, x6, x14 => if x14 = true then (if (x6.length : Int) ≥ 3 then (some (x6, false)) else (if x6.length < 17592186044416 then (if 0 ≤ x1 then (if x1 < (x0.length : Int) then (stopgateref03_climb.l0 k x0 ((rd_T176 x0 x1).f0) (x6 ++ [x1])) else (none)) else (none)) else (none))) else (some (x6, true))
end
def stopgateref03_climb.f (k : Nat) (l0 : List (S176)) (a1 : Int) : Option (List Int × Bool) := stopgateref03_climb.l0 k l0 a1 ([] : List Int)
theorem stopgateref03_climb.mono_l : ∀ k, (∀ y0 y1 y2, LeO (stopgateref03_climb.l0 k y0 y1 y2) (stopgateref03_climb.l0 (k + 1) y0 y1 y2)) ∧ (∀ y0 y1 y2 y3, LeO (stopgateref03_climb.j1 k y0 y1 y2 y3) (stopgateref03_climb.j1 (k + 1) y0 y1 y2 y3))
 | 0 => ⟨fun _ _ _ r h => by simp [stopgateref03_climb.l0] at h, fun _ _ _ _ r h => by simp [stopgateref03_climb.j1] at h⟩
 | k + 1 => by
  obtain ⟨ih0, ih1⟩ := stopgateref03_climb.mono_l k
  refine ⟨?_, ?_⟩
  ·intro y0 y1 y2
   unfold stopgateref03_climb.l0
   repeat' first
   | (with_reducible exact ih0 _ _ _)
   | (with_reducible exact ih1 _ _ _ _)
   | (with_reducible exact LeO.refl _)
   | (with_reducible exact LeO.none _)
   | (with_reducible refine LeO.ite ?_ ?_)
   | (with_reducible refine LeO.bind ?_ (fun _ => ?_))
   | exact ih0 _ _ _
   | exact ih1 _ _ _ _
   | exact LeO.none _
   | refine LeO.ite ?_ ?_
   | refine LeO.bind ?_ (fun _ => ?_)
  ·intro y0 y1 y2 y3
   unfold stopgateref03_climb.j1
   repeat' first
   | (with_reducible exact ih0 _ _ _)
   | (with_reducible exact ih1 _ _ _ _)
   | (with_reducible exact LeO.refl _)
   | (with_reducible exact LeO.none _)
   | (with_reducible refine LeO.ite ?_ ?_)
   | (with_reducible refine LeO.bind ?_ (fun _ => ?_))
   | exact ih0 _ _ _
   | exact ih1 _ _ _ _
   | exact LeO.none _
   | refine LeO.ite ?_ ?_
   | refine LeO.bind ?_ (fun _ => ?_)
theorem stopgateref03_climb.mono : ∀ a0 a1 k, LeO (stopgateref03_climb.f k a0 a1) (stopgateref03_climb.f (k + 1) a0 a1) := by
 intro a0 a1 k
 obtain ⟨ih0, ih1⟩ := stopgateref03_climb.mono_l k
 unfold stopgateref03_climb.f
 repeat' first
   | (with_reducible exact ih0 _ _ _)
   | (with_reducible exact ih1 _ _ _ _)
   | (with_reducible exact LeO.refl _)
   | (with_reducible exact LeO.none _)
   | (with_reducible refine LeO.ite ?_ ?_)
   | (with_reducible refine LeO.bind ?_ (fun _ => ?_))
   | exact ih0 _ _ _
   | exact ih1 _ _ _ _
   | exact LeO.none _
   | refine LeO.ite ?_ ?_
   | refine LeO.bind ?_ (fun _ => ?_)
set_option maxHeartbeats 8000000 in
set_option maxRecDepth 100000 in
theorem stopgateref03_climb.calls (k : Nat) (A0 : Option Addr) (c0 : Nat) (l0 : List (S176)) (a1 : Int) (r1 : List Int) (r2 : Bool) (w : World) (hr0 : Kd.C k176 w A0 l0.length l0) (hc0 : l0.length ≤ c0) (h : stopgateref03_climb.f k l0 a1 = some (r1, r2)) :
  Calls Try.prog 114 #[.slice A0 l0.length c0, .int .i64 a1] w fun e w' => ∃ v0_ : Value, e = .returned (.tuple #[v0_, .bool r2]) ∧ Kd.R (Kd.int .i64) 3 w' w.heap.size (fun _ => True) v0_ r1 ∧ Below w.heap.size w w' := by
 have HR0 := A0s.mk hr0
 have HC0 := A0s.mk hc0
 clear hr0 hc0
 have HB := A0s.mk (Below.refl w.heap.size w)
 have H : (stopgateref03_climb.l0 k l0 a1 ([] : List Int)) = some (r1, r2) := h
 clear h
 have H' := A0s.mk H
 clear H
 go_enter Try.func114, Try.ntmps114
 go_wp2
 go_loopg [1, 6] k (fun kq v1 v6 w' => ∃ (x1_1 : Int) (x6_1 : List Int), v1 = .int .i64 x1_1 ∧ A0s (stopgateref03_climb.l0 kq l0 x1_1 x6_1 = some (r1, r2)) ∧ A0s (kq ≤ k) ∧ A0s (Kd.R (Kd.int .i64) 3 w' w.heap.size (fun _ => True) v6 x6_1) ∧ A0s (Below w.heap.size w w'))
 case atStart => exact ⟨(a1), (([] : List Int)), (by first | rfl | (simp; done) | (simp [*]; done)), H', ⟨Nat.le_refl _⟩, ⟨by first | exact Kd.R_nil _ _ _ _ _ | exact Kd.N_nil _ _ _ _ _ | exact Kd.V_nil _ _ _ _ _ | exact Kd.Q_nil _ _ _ _ _ | exact Kd.S_nil _ _ _ _ _⟩, ⟨by repeat (first | (with_reducible first | exact HB.out | apply bA | apply bN | apply bD) | exact HB.out)⟩⟩
 case round =>
  clear H'
  try clear c1
  try clear p2
  obtain ⟨x1_1, x6_1, rfl, HA, HK1, HO_6, HB⟩ := hrel
  cases gk with
  | zero => exact absurd HA.out (by simp [stopgateref03_climb.l0])
  | succ k1 =>
   have H := HA.out
   clear HA
   simp only [stopgateref03_climb.l0] at H
   have HC3 := A0s.mk H
   clear H
   go_upto_region 2 with (fail)
   go_cut [14] (fun v14 wc => ∃ (kq : Nat) (x14_2 : Bool), v14 = .bool x14_2 ∧ A0s (stopgateref03_climb.j1 kq l0 x1_1 x6_1 x14_2 = some (r1, r2)) ∧ A0s (kq ≤ k1) ∧ A0s (Kd.R (Kd.int .i64) 3 wc w.heap.size (fun _ => True) u6 x6_1) ∧ A0s (Below w.heap.size w wc))
   case first =>
    have H := HC3.out
    clear HC3
    by_cases c4 : x1_1 ≥ 0
    ·rw [if_pos c4] at H
     have c4b0 : decide (0 ≤ x1_1) = true := decide_eq_true c4
     clear c4
     (first | rw [c4b0] | (simp only [i64_w, i32_w]; rw [c4b0]) | skip)
     have H' := A0s.mk H
     clear H
     go_wp2
     go_meet
     case rel => exact ⟨_, (decide (x1_1 < (l0.length : Int))), (by first | rfl | (simp; done) | (simp [*]; done)), H', ⟨by have := HK1.out; first | omega | exact Nat.le_refl _⟩, ⟨by (with_reducible repeat (first | apply Kd.RA | apply Kd.RN | apply Kd.RD)); exact HO_6.out⟩, ⟨by repeat (first | (with_reducible first | exact HB.out | apply bA | apply bN | apply bD) | exact HB.out)⟩⟩
    ·rw [if_neg c4] at H
     have c4b0 : decide (0 ≤ x1_1) = false := decide_eq_false c4
     clear c4
     (first | rw [c4b0] | (simp only [i64_w, i32_w]; rw [c4b0]) | skip)
     have H' := A0s.mk H
     clear H
     go_wp2
     go_meet
     case rel => exact ⟨_, (false), (by first | rfl | (simp; done) | (simp [*]; done)), H', ⟨by have := HK1.out; first | omega | exact Nat.le_refl _⟩, ⟨by (with_reducible repeat (first | apply Kd.RA | apply Kd.RN | apply Kd.RD)); exact HO_6.out⟩, ⟨by repeat (first | (with_reducible first | exact HB.out | apply bA | apply bN | apply bD) | exact HB.out)⟩⟩
   case rest =>
    clear HC3
    try clear c1
    try clear p2
    try clear c4
    try clear c4b0
    try clear p2
    obtain ⟨kq, x14_2, rfl, HA, HJ2, HO_6, HB⟩ := hcut
    cases kq with
    | zero => exact absurd HA.out (by simp [stopgateref03_climb.j1])
    | succ kj2 =>
     have H := HA.out
     clear HA
     simp only [stopgateref03_climb.j1] at H
     by_cases c5 : x14_2 = true
     ·subst c5
      have H1 : (if (x6_1.length : Int) ≥ 3 then (some (x6_1, false)) else (if x6_1.length < 17592186044416 then (if 0 ≤ x1_1 then (if x1_1 < (l0.length : Int) then (stopgateref03_climb.l0 kj2 l0 ((rd_T176 l0 x1_1).f0) (x6_1 ++ [x1_1])) else (none)) else (none)) else (none))) = some (r1, r2) := by rw [if_pos rfl] at H; exact H
      clear H
      have H := H1
      clear H1
      by_cases c6 : (x6_1.length : Int) ≥ 3
      ·rw [if_pos c6] at H
       have c6b0 : decide (3 ≤ (x6_1.length : Int)) = true := decide_eq_true c6
       have c6b1 : decide (3 ≤ x6_1.length) = true := decide_eq_true (by omega)
       clear c6
       simp only [Option.some.injEq, Prod.mk.injEq] at H
       obtain ⟨rfl, rfl⟩ := H
       obtain ⟨Ao7, co7, eo7⟩ := Kd.R_slice HO_6.out
       subst eo7
       go_wp2
       go_ret2
       exact ⟨_, by first | rfl | (simp [errW_none, errW_some] <;> rfl) | (simp [*, errW_none, errW_some] <;> rfl), by (with_reducible repeat (first | apply Kd.RA | apply Kd.RN | apply Kd.RD)); exact HO_6.out, by repeat (first | (with_reducible first | exact HB.out | apply bA | apply bN | apply bD) | exact HB.out)⟩
      ·rw [if_neg c6] at H
       have c6b0 : decide (3 ≤ (x6_1.length : Int)) = false := decide_eq_false c6
       have c6b1 : decide (3 ≤ x6_1.length) = false := decide_eq_false (by omega)
       clear c6
       by_cases c8 : x6_1.length < 17592186044416
       ·rw [if_pos c8] at H
        have LMc8 := A0s.mk c8
        clear c8
        obtain ⟨y101, hy101⟩ : ∃ y_ : List Int, y_ = (x6_1 ++ [x1_1]) := ⟨_, rfl⟩
        replace H : (if 0 ≤ x1_1 then (if x1_1 < (l0.length : Int) then (stopgateref03_climb.l0 kj2 l0 ((rd_T176 l0 x1_1).f0) y101) else (none)) else (none)) = some (r1, r2) := by first | (rw [hy101]; with_reducible exact H) | (have H2_ := (Option.bind_some _ _).symm.trans H; rw [hy101]; with_reducible exact H2_) | (have H2_ := (Option.bind_some _ _).symm.trans H; with_reducible exact H2_) | with_reducible exact H | (rw [hy101]; exact H) | exact H
        have Ny101 := A0s.mk hy101
        clear hy101
        by_cases c9 : 0 ≤ x1_1
        ·rw [if_pos c9] at H
         have c9b0 : decide (0 ≤ x1_1) = true := decide_eq_true c9
         clear c9
         by_cases c10 : x1_1 < (l0.length : Int)
         ·rw [if_pos c10] at H
          have c10b0 : decide (x1_1 < (l0.length : Int)) = true := decide_eq_true c10
          clear c10
          have H' := A0s.mk H
          clear H
          obtain ⟨Ao11, co11, eo11⟩ := Kd.R_slice HO_6.out
          subst eo11
          go_wp2_with (first | ((with_reducible refine gate_builtin (b := .append) (xs := #[.tmp 19, .tmp 21]) rfl ?_); (try (refine gate_guard (by rfl) ?_; dsimp only)); at_builtin; refine Kd.R_append (Kd.int .i64) (w0 := w) w.heap.size rfl (.tmp 19) (.tmp 21) 57 3 (.int .i64 0) 8 rfl Try.underlying57 info3 rfl (by decide) (by omega) (.slice Ao11 x6_1.length co11) x6_1 x1_1 [.int .i64 x1_1] (fun _ => True) (fun _ => False) rfl rfl ?aP (fun _ hk => hk.elim) ?aF ?aO ?aB ?aS ?aL ?_; (case aP => exact rfl); (case aB => exact (by repeat (first | (with_reducible first | exact HB.out | apply bA | apply bN | apply bD) | exact HB.out))); (case aF => exact (fun _ _ => trivial)); (case aO => exact (by (with_reducible repeat (first | apply Kd.RA | apply Kd.RN | apply Kd.RD)); exact HO_6.out)); (case aS => exact (below_size (by repeat (first | (with_reducible first | exact HB.out | apply bA | apply bN | apply bD) | exact HB.out)))); (case aL => have := LMc8.out; omega); intro v102 w12 ho hb hg hat; rw [← Ny101.out] at ho; have n0_ := A0s.mk (hb); have n1_ := A0s.mk (ho); clear HB; clear HO_6; have HB := n0_; have HO103 := n1_; clear n0_ n1_; clear ho hb hg hat; have p104 : 0 ≤ (x1_1 : Int) := of_decide_eq_true (by first | (with_reducible assumption) | assumption); have q104 : x1_1 < (l0.length : Int) := of_decide_eq_true (by first | (with_reducible assumption) | assumption); obtain ⟨ad104, e104, hx104_0, hx104_1⟩ := at_T176 HR0.out x1_1 p104 q104; cases e104; replace hx104_0 := (HB.out.cell (World.block_lt_of_cell? w _ hx104_0)).trans hx104_0; replace hx104_1 := (HB.out.cell (World.block_lt_of_cell? w _ hx104_1)).trans hx104_1; replace p104 := eq_true p104; replace q104 := eq_true q104))
          go_roundg kj2
          case measure => have := HK1.out; have := HJ2.out; omega
          case rel => exact ⟨((rd_T176 l0 x1_1).f0), (y101), (by first | rfl | (simp; done) | (simp [*]; done)), H', ⟨by have := HK1.out; have := HJ2.out; omega⟩, ⟨by (with_reducible repeat (first | apply Kd.RA | apply Kd.RN | apply Kd.RD)); exact HO103.out⟩, ⟨by repeat (first | (with_reducible first | exact HB.out | apply bA | apply bN | apply bD) | exact HB.out)⟩⟩
         ·rw [if_neg c10] at H
          exact absurd H (by simp)
        ·rw [if_neg c9] at H
         exact absurd H (by simp)
       ·rw [if_neg c8] at H
        exact absurd H (by simp)
     ·replace c5 := Bool.eq_false_iff.mpr c5
      subst c5
      have H1 : (some (x6_1, true)) = some (r1, r2) := by rw [if_neg (show ¬ (false = true) by decide)] at H; exact H
      clear H
      have H := H1
      clear H1
      simp only [Option.some.injEq, Prod.mk.injEq] at H
      obtain ⟨rfl, rfl⟩ := H
      go_wp2
      go_ret2
      exact ⟨_, by first | rfl | (simp [errW_none, errW_some] <;> rfl) | (simp [*, errW_none, errW_some] <;> rfl), by (with_reducible repeat (first | apply Kd.RA | apply Kd.RN | apply Kd.RD)); exact HO_6.out, by repeat (first | (with_reducible first | exact HB.out | apply bA | apply bN | apply bD) | exact HB.out)⟩

/-! ### stopgateref03_Path: function 101 -/
def stopgateref03_Path.f (k : Nat) (l0 : List (S176)) (a1 : Int) : Option (List Int) := (stopgateref03_climb.f k l0 a1).bind fun bt105 => (some bt105.1)
theorem stopgateref03_Path.mono : ∀ a0 a1 k, LeO (stopgateref03_Path.f k a0 a1) (stopgateref03_Path.f (k + 1) a0 a1) := by
 intro a0 a1 k
 unfold stopgateref03_Path.f
 repeat' first
   | (with_reducible exact stopgateref03_climb.mono _ _ _)
   | (with_reducible exact LeO.refl _)
   | (with_reducible exact LeO.none _)
   | (with_reducible refine LeO.ite ?_ ?_)
   | (with_reducible refine LeO.bind ?_ (fun _ => ?_))
   | exact stopgateref03_climb.mono _ _ _
   | exact LeO.none _
   | refine LeO.ite ?_ ?_
   | refine LeO.bind ?_ (fun _ => ?_)
set_option maxHeartbeats 8000000 in
set_option maxRecDepth 100000 in
theorem stopgateref03_Path.calls (k : Nat) (A0 : Option Addr) (c0 : Nat) (l0 : List (S176)) (a1 : Int) (r : List Int) (w : World) (hr0 : Kd.C k176 w A0 l0.length l0) (hc0 : l0.length ≤ c0) (h : stopgateref03_Path.f k l0 a1 = some r) :
  Calls Try.prog 101 #[.slice A0 l0.length c0, .int .i64 a1] w fun e w' => ∃ v0_ : Value, e = .returned (v0_) ∧ Kd.R (Kd.int .i64) 3 w' w.heap.size (fun _ => True) v0_ r ∧ Below w.heap.size w w' := by
 have HR0 := A0s.mk hr0
 have HC0 := A0s.mk hc0
 clear hr0 hc0
 have HB := A0s.mk (Below.refl w.heap.size w)
 have H : ((stopgateref03_climb.f k l0 a1).bind fun bt105 => (some bt105.1)) = some r := h
 clear h
 replace H := Option.bind_eq_some_iff.mp H
 obtain ⟨⟨t105, t106⟩, A30, H⟩ := H
 replace H : (some t105) = some r := H
 have A3 := A0s.mk A30
 clear A30
 obtain rfl := Option.some.inj H
 go_enter Try.func101, Try.ntmps101
 go_wp2_with (first | ((with_reducible refine gC (f := 114) rfl ?_); refine gL (some 10) rfl rfl Try.func114 (by kernel_rfl) rfl #[.slice A0 l0.length c0, .int .i64 a1] rfl (by (try simp only [List.map_toArray, List.map_cons, List.map_nil]); first | done | rfl | (simp only [List.length_drop, List.length_take]; rfl)) ?_; (with_reducible refine (stopgateref03_climb.calls k _ _ l0 a1 t105 t106 _ ?side1 ?side2 A3.out).mono ?_); (case side1 => repeat (first | exact HR0.out | (with_reducible refine Kd.C_alloc ?_ _) | (with_reducible refine Kd.C_drewN ?_ _) | (with_reducible refine Kd.C_drew ?_))); (case side2 => exact HC0.out); rintro e w4 ⟨v107, rfl, ho0, hb⟩; refine ⟨_, rfl, ?_⟩; have n0_ := A0s.mk (Kd.R_lower ho0 (below_size (by repeat (first | (with_reducible first | exact HB.out | apply bA | apply bN | apply bD) | exact HB.out)))); have n1_ := A0s.mk (below_step (by repeat (first | (with_reducible first | exact HB.out | apply bA | apply bN | apply bD) | exact HB.out)) hb); clear HB; have HO108 := n0_; have HB := n1_; clear n0_ n1_; (try clear hb); (try clear hb2); (try clear hk); (try clear hi); (try clear ho0)))
 go_ret
 exact ⟨_, by first | rfl | (simp [errW_none, errW_some] <;> rfl) | (simp [*, errW_none, errW_some] <;> rfl), by (with_reducible repeat (first | apply Kd.RA | apply Kd.RN | apply Kd.RD)); exact HO108.out, by repeat (first | (with_reducible first | exact HB.out | apply bA | apply bN | apply bD) | exact HB.out)⟩

/-! ### stopgateref03_Fix: function 74 -/
mutual
def stopgateref03_Fix.l0 : Nat → List (S176) → List (S176) → Int → Option ((List (S176)))
 | 0, _, _, _ => none
 | k + 1, x0, x3, x4 => if x4 < (x0.length : Int) then (stopgateref03_Fix.j1 k x0 x3 x4 (decide (x4 < 10))) else (stopgateref03_Fix.j1 k x0 x3 x4 false)
def stopgateref03_Fix.j1 : Nat → List (S176) → List (S176) → Int → Bool → Option ((List (S176)))
 | 0, _, _, _, _ => none
 | k + 1, x0, x3, x4, x13 => if x13 = true then (if 0 ≤ x4 then (if x4 < (x0.length : Int) then (if x4 > 0 then (stopgateref03_Fix.j2 k x0 x3 x4 (decide (((rd_T176 x0 x4).f0) ≥ 0)) (-1) (wrap64 (Int.tmod (IntKind.u64.wrap ((rd_T176 x0 x4).f1)) 4611686018427387905))) else (stopgateref03_Fix.j2 k x0 x3 x4 false (-1) (wrap64 (Int.tmod (IntKind.u64.wrap ((rd_T176 x0 x4).f1)) 4611686018427387905)))) else (none)) else (none)) else (if (x3.length : Int) = 0 then (some (([(⟨(-1), 1000⟩ : S176)] : List (S176)))) else (some x3))
def stopgateref03_Fix.j2 : Nat → List (S176) → List (S176) → Int → Bool → Int → Int → Option ((List (S176)))
 | 0, _, _, _, _, _, _ => none
 | k + 1, x0, x3, x4, x34, x114000, x114001 => if x34 = true then (if 0 ≤ x4 then (if x4 < (x0.length : Int) then (if x4 = 0 then (none) else ((stopgateref03_Path.f k x3 (Int.tmod ((rd_T176 x0 x4).f0) x4)).bind fun t116 => (if (t116.length : Int) ≥ 3 then (if x3.length < 8796093022208 then (stopgateref03_Fix.l0 k x0 (x3 ++ [(⟨(-1), x114001⟩ : S176)]) (wrap64 (x4 + 1))) else (none)) else (if x3.length < 8796093022208 then (stopgateref03_Fix.l0 k x0 (x3 ++ [(⟨Int.tmod ((rd_T176 x0 x4).f0) x4, x114001⟩ : S176)]) (wrap64 (x4 + 1))) else (none))))) else (none)) else (none)) else (if x3.length < 8796093022208 then (stopgateref03_Fix.l0 k x0 (x3 ++ [(⟨x114000, x114001⟩ : S176)]) (wrap64 (x4 + 1))) else (none))
end
def stopgateref03_Fix.f (k : Nat) (l0 : List (S176)) : Option ((List (S176))) := stopgateref03_Fix.l0 k l0 ([] : List (S176)) 0
theorem stopgateref03_Fix.mono_l : ∀ k, (∀ y0 y1 y2, LeO (stopgateref03_Fix.l0 k y0 y1 y2) (stopgateref03_Fix.l0 (k + 1) y0 y1 y2)) ∧ (∀ y0 y1 y2 y3, LeO (stopgateref03_Fix.j1 k y0 y1 y2 y3) (stopgateref03_Fix.j1 (k + 1) y0 y1 y2 y3)) ∧ (∀ y0 y1 y2 y3 y4 y5, LeO (stopgateref03_Fix.j2 k y0 y1 y2 y3 y4 y5) (stopgateref03_Fix.j2 (k + 1) y0 y1 y2 y3 y4 y5))
 | 0 => ⟨fun _ _ _ r h => by simp [stopgateref03_Fix.l0] at h, fun _ _ _ _ r h => by simp [stopgateref03_Fix.j1] at h, fun _ _ _ _ _ _ r h => by simp [stopgateref03_Fix.j2] at h⟩
 | k + 1 => by
  obtain ⟨ih0, ih1, ih2⟩ := stopgateref03_Fix.mono_l k
  refine ⟨?_, ?_, ?_⟩
  ·intro y0 y1 y2
   unfold stopgateref03_Fix.l0
   repeat' first
   | (with_reducible exact ih0 _ _ _)
   | (with_reducible exact ih1 _ _ _ _)
   | (with_reducible exact ih2 _ _ _ _ _ _)
   | (with_reducible exact stopgateref03_Path.mono _ _ _)
   | (with_reducible exact LeO.refl _)
   | (with_reducible exact LeO.none _)
   | (with_reducible refine LeO.ite ?_ ?_)
   | (with_reducible refine LeO.bind ?_ (fun _ => ?_))
   | exact ih0 _ _ _
   | exact ih1 _ _ _ _
   | exact ih2 _ _ _ _ _ _
   | exact stopgateref03_Path.mono _ _ _
   | exact LeO.none _
   | refine LeO.ite ?_ ?_
   | refine LeO.bind ?_ (fun _ => ?_)
  ·intro y0 y1 y2 y3
   unfold stopgateref03_Fix.j1
   repeat' first
   | (with_reducible exact ih0 _ _ _)
   | (with_reducible exact ih1 _ _ _ _)
   | (with_reducible exact ih2 _ _ _ _ _ _)
   | (with_reducible exact stopgateref03_Path.mono _ _ _)
   | (with_reducible exact LeO.refl _)
   | (with_reducible exact LeO.none _)
   | (with_reducible refine LeO.ite ?_ ?_)
   | (with_reducible refine LeO.bind ?_ (fun _ => ?_))
   | exact ih0 _ _ _
   | exact ih1 _ _ _ _
   | exact ih2 _ _ _ _ _ _
   | exact stopgateref03_Path.mono _ _ _
   | exact LeO.none _
   | refine LeO.ite ?_ ?_
   | refine LeO.bind ?_ (fun _ => ?_)
  ·intro y0 y1 y2 y3 y4 y5
   unfold stopgateref03_Fix.j2
   repeat' first
   | (with_reducible exact ih0 _ _ _)
   | (with_reducible exact ih1 _ _ _ _)
   | (with_reducible exact ih2 _ _ _ _ _ _)
   | (with_reducible exact stopgateref03_Path.mono _ _ _)
   | (with_reducible exact LeO.refl _)
   | (with_reducible exact LeO.none _)
   | (with_reducible refine LeO.ite ?_ ?_)
   | (with_reducible refine LeO.bind ?_ (fun _ => ?_))
   | exact ih0 _ _ _
   | exact ih1 _ _ _ _
   | exact ih2 _ _ _ _ _ _
   | exact stopgateref03_Path.mono _ _ _
   | exact LeO.none _
   | refine LeO.ite ?_ ?_
   | refine LeO.bind ?_ (fun _ => ?_)
theorem stopgateref03_Fix.mono : ∀ a0 k, LeO (stopgateref03_Fix.f k a0) (stopgateref03_Fix.f (k + 1) a0) := by
 intro a0 k
 obtain ⟨ih0, ih1, ih2⟩ := stopgateref03_Fix.mono_l k
 unfold stopgateref03_Fix.f
 repeat' first
   | (with_reducible exact ih0 _ _ _)
   | (with_reducible exact ih1 _ _ _ _)
   | (with_reducible exact ih2 _ _ _ _ _ _)
   | (with_reducible exact stopgateref03_Path.mono _ _ _)
   | (with_reducible exact LeO.refl _)
   | (with_reducible exact LeO.none _)
   | (with_reducible refine LeO.ite ?_ ?_)
   | (with_reducible refine LeO.bind ?_ (fun _ => ?_))
   | exact ih0 _ _ _
   | exact ih1 _ _ _ _
   | exact ih2 _ _ _ _ _ _
   | exact stopgateref03_Path.mono _ _ _
   | exact LeO.none _
   | refine LeO.ite ?_ ?_
   | refine LeO.bind ?_ (fun _ => ?_)
set_option maxHeartbeats 8000000 in
set_option maxRecDepth 100000 in
theorem stopgateref03_Fix.calls (k : Nat) (A0 : Option Addr) (c0 : Nat) (l0 : List (S176)) (r : List (S176)) (w : World) (hr0 : Kd.C k176 w A0 l0.length l0) (hc0 : l0.length ≤ c0) (h : stopgateref03_Fix.f k l0 = some r) :
  Calls Try.prog 74 #[.slice A0 l0.length c0] w fun e w' => ∃ v0_ : Value, e = .returned (v0_) ∧ Kd.R k176 176 w' w.heap.size (fun _ => True) v0_ r ∧ Below w.heap.size w w' := by
 have hu176 := Try.underlying176
 have HR0 := A0s.mk hr0
 have HC0 := A0s.mk hc0
 clear hr0 hc0
 have HB := A0s.mk (Below.refl w.heap.size w)
 have H : (stopgateref03_Fix.l0 k l0 ([] : List (S176)) 0) = some r := h
 clear h
 have H' := A0s.mk H
 clear H
 go_enter Try.func74, Try.ntmps74
 go_wp2
 go_loopg [3, 4] k (fun kq v3 v4 w' => ∃ (x3_1 : List (S176)) (x4_1 : Int), v4 = .int .i64 x4_1 ∧ A0s (stopgateref03_Fix.l0 kq l0 x3_1 x4_1 = some r) ∧ A0s (kq ≤ k) ∧ A0s (Kd.R k176 176 w' w.heap.size (fun _ => True) v3 x3_1) ∧ A0s (Below w.heap.size w w'))
 case atStart => exact ⟨(([] : List (S176))), (0), (by first | rfl | (simp; done) | (simp [*]; done)), H', ⟨Nat.le_refl _⟩, ⟨by first | exact Kd.R_nil _ _ _ _ _ | exact Kd.N_nil _ _ _ _ _ | exact Kd.V_nil _ _ _ _ _ | exact Kd.Q_nil _ _ _ _ _ | exact Kd.S_nil _ _ _ _ _⟩, ⟨by repeat (first | (with_reducible first | exact HB.out | apply bA | apply bN | apply bD) | exact HB.out)⟩⟩
 case round =>
  clear H'
  obtain ⟨x3_1, x4_1, rfl, HA, HK1, HO_3, HB⟩ := hrel
  cases gk with
  | zero => exact absurd HA.out (by simp [stopgateref03_Fix.l0])
  | succ k1 =>
   have H := HA.out
   clear HA
   simp only [stopgateref03_Fix.l0] at H
   have HC2 := A0s.mk H
   clear H
   go_upto_region 3 with (fail)
   go_cut [13] (fun v13 wc => ∃ (kq : Nat) (x13_1 : Bool), v13 = .bool x13_1 ∧ A0s (stopgateref03_Fix.j1 kq l0 x3_1 x4_1 x13_1 = some r) ∧ A0s (kq ≤ k1) ∧ A0s (Kd.R k176 176 wc w.heap.size (fun _ => True) u3 x3_1) ∧ A0s (Below w.heap.size w wc))
   case first =>
    have H := HC2.out
    clear HC2
    by_cases c3 : x4_1 < (l0.length : Int)
    ·rw [if_pos c3] at H
     have c3b0 : decide (x4_1 < (l0.length : Int)) = true := decide_eq_true c3
     clear c3
     (first | rw [c3b0] | (simp only [i64_w, i32_w]; rw [c3b0]) | skip)
     have H' := A0s.mk H
     clear H
     go_wp2
     go_meet
     case rel => exact ⟨_, (decide (x4_1 < 10)), (by first | rfl | (simp; done) | (simp [*]; done)), H', ⟨by have := HK1.out; first | omega | exact Nat.le_refl _⟩, ⟨by (with_reducible repeat (first | apply Kd.RA | apply Kd.RN | apply Kd.RD)); exact HO_3.out⟩, ⟨by repeat (first | (with_reducible first | exact HB.out | apply bA | apply bN | apply bD) | exact HB.out)⟩⟩
    ·rw [if_neg c3] at H
     have c3b0 : decide (x4_1 < (l0.length : Int)) = false := decide_eq_false c3
     clear c3
     (first | rw [c3b0] | (simp only [i64_w, i32_w]; rw [c3b0]) | skip)
     have H' := A0s.mk H
     clear H
     go_wp2
     go_meet
     case rel => exact ⟨_, (false), (by first | rfl | (simp; done) | (simp [*]; done)), H', ⟨by have := HK1.out; first | omega | exact Nat.le_refl _⟩, ⟨by (with_reducible repeat (first | apply Kd.RA | apply Kd.RN | apply Kd.RD)); exact HO_3.out⟩, ⟨by repeat (first | (with_reducible first | exact HB.out | apply bA | apply bN | apply bD) | exact HB.out)⟩⟩
   case rest =>
    clear HC2
    try clear p2
    try clear c3
    try clear c3b0
    obtain ⟨kq, x13_1, rfl, HA, HJ1, HO_3, HB⟩ := hcut
    cases kq with
    | zero => exact absurd HA.out (by simp [stopgateref03_Fix.j1])
    | succ kj1 =>
     have H := HA.out
     clear HA
     simp only [stopgateref03_Fix.j1] at H
     by_cases c4 : x13_1 = true
     ·subst c4
      have H1 : (if 0 ≤ x4_1 then (if x4_1 < (l0.length : Int) then (if x4_1 > 0 then (stopgateref03_Fix.j2 kj1 l0 x3_1 x4_1 (decide (((rd_T176 l0 x4_1).f0) ≥ 0)) (-1) (wrap64 (Int.tmod (IntKind.u64.wrap ((rd_T176 l0 x4_1).f1)) 4611686018427387905))) else (stopgateref03_Fix.j2 kj1 l0 x3_1 x4_1 false (-1) (wrap64 (Int.tmod (IntKind.u64.wrap ((rd_T176 l0 x4_1).f1)) 4611686018427387905)))) else (none)) else (none)) = some r := by rw [if_pos rfl] at H; exact H
      clear H
      have H := H1
      clear H1
      by_cases c5 : 0 ≤ x4_1
      ·rw [if_pos c5] at H
       have c5b0 : decide (0 ≤ x4_1) = true := decide_eq_true c5
       clear c5
       by_cases c6 : x4_1 < (l0.length : Int)
       ·rw [if_pos c6] at H
        have c6b0 : decide (x4_1 < (l0.length : Int)) = true := decide_eq_true c6
        clear c6
        have HC7 := A0s.mk H
        clear H
        have p112 : 0 ≤ (x4_1 : Int) := of_decide_eq_true (by first | (with_reducible assumption) | assumption)
        have q112 : x4_1 < (l0.length : Int) := of_decide_eq_true (by first | (with_reducible assumption) | assumption)
        obtain ⟨ad112, e112, hx112_0, hx112_1⟩ := at_T176 HR0.out x4_1 p112 q112
        cases e112
        replace hx112_0 := (HB.out.cell (World.block_lt_of_cell? w _ hx112_0)).trans hx112_0
        replace hx112_1 := (HB.out.cell (World.block_lt_of_cell? w _ hx112_1)).trans hx112_1
        replace p112 := eq_true p112
        replace q112 := eq_true q112
        go_upto_region 6 with (first | ((with_reducible refine gate_dst (N := 5) rfl ?_); refine box_event ?hg (N := 5) ?hd (cs := #[.int .i64 0, .int .i64 0]) (t := 176) ?hr ?_; (case hd => rfl); (case hg => rfl); (case hr => first | (go_simp; done) | (go_simp; rfl)); intro gb113 hg w8 hbox hb; have n0_ := A0s.mk (Kd.R_below (Kd.R_elderB (by (with_reducible repeat (first | apply Kd.RA | apply Kd.RN | apply Kd.RD)); exact HO_3.out) gb113 (Nat.le_of_eq hg.symm)) hb); have n1_ := A0s.mk (below_step (by repeat (first | (with_reducible first | exact HB.out | apply bA | apply bN | apply bD) | exact HB.out)) hb); have n2_ := A0s.mk (hbox); have n3_ := A0s.mk ((by rw [hg]; exact (below_size (by repeat (first | (with_reducible first | exact HB.out | apply bA | apply bN | apply bD) | exact HB.out))) : w.heap.size ≤ gb113)); have n4_ := A0s.mk ((by rw [hg]; exact (below_size (by repeat (first | (with_reducible first | exact HB.out | apply bA | apply bN | apply bD) | exact HB.out))) : w.heap.size ≤ gb113)); clear HO_3; clear HB; have HO_3 := n0_; have HB := n1_; have BK113 := n2_; have GW113 := n3_; have GE113 := n4_; clear n0_ n1_ n2_ n3_ n4_; clear hb hbox hg; obtain ⟨hcz9_0, hcz9_1, hfz9_0, hfz9_1⟩ := blk_all2 BK113.out))
        (try simp only [Act.put, List.setIfInBounds_toArray, List.set_cons_zero, List.set_cons_succ])
        go_cut [34] (fun v34 wc => ∃ (kq : Nat) (x34_6 : Bool), v34 = .bool x34_6 ∧ A0s (stopgateref03_Fix.j2 kq l0 x3_1 x4_1 x34_6 (-1) (wrap64 (Int.tmod (IntKind.u64.wrap ((rd_T176 l0 x4_1).f1)) 4611686018427387905)) = some r) ∧ A0s (kq ≤ kj1) ∧ A0s (Kd.R k176 176 wc w.heap.size (fun k_ => k_ ≠ gb113) u3 x3_1) ∧ A0s (wc.heap[gb113]? = some (.cells #[.int .i64 (-1), .int .i64 (wrap64 (Int.tmod (IntKind.u64.wrap ((rd_T176 l0 x4_1).f1)) 4611686018427387905))] 176 (0, 0))) ∧ A0s (Below w.heap.size w wc))
        case first =>
         have H := HC7.out
         clear HC7
         by_cases c10 : x4_1 > 0
         ·rw [if_pos c10] at H
          have c10b0 : decide (0 < x4_1) = true := decide_eq_true c10
          clear c10
          (first | rw [c10b0] | (simp only [i64_w, i32_w]; rw [c10b0]) | skip)
          have H' := A0s.mk H
          clear H
          have p114 : 0 ≤ (x4_1 : Int) := of_decide_eq_true (by first | (with_reducible assumption) | assumption)
          have q114 : x4_1 < (l0.length : Int) := of_decide_eq_true (by first | (with_reducible assumption) | assumption)
          obtain ⟨ad114, e114, hx114_0, hx114_1⟩ := at_T176 HR0.out x4_1 p114 q114
          obtain rfl : ad112 = ad114 := (by injection e114)
          have hn114_0 : ad112.block ≠ gb113 := Nat.ne_of_lt (Nat.lt_of_lt_of_le (by have := World.block_lt_of_cell? _ _ hx114_0; first | rwa [add_block] at this | exact this) GW113.out)
          have hn114_1 : ad112.block ≠ gb113 := Nat.ne_of_lt (Nat.lt_of_lt_of_le (by have := World.block_lt_of_cell? _ _ hx114_0; first | rwa [add_block] at this | exact this) GW113.out)
          replace hx114_0 := (HB.out.cell (World.block_lt_of_cell? w _ hx114_0)).trans hx114_0
          replace hx114_1 := (HB.out.cell (World.block_lt_of_cell? w _ hx114_1)).trans hx114_1
          replace hx114_0 := (cell_far (p := ⟨gb113, 0, none⟩) (by first | (rw [add_block]; exact hn114_0) | (show (Addr.add _ _).block ≠ _; rw [add_block]; exact hn114_0) | exact hn114_0) (.int .i64 (-1))).trans hx114_0
          replace hx114_1 := (cell_far (p := ⟨gb113, 0, none⟩) (by first | (rw [add_block]; exact hn114_0) | (show (Addr.add _ _).block ≠ _; rw [add_block]; exact hn114_0) | exact hn114_0) (.int .i64 (-1))).trans hx114_1
          replace hx114_0 := (cell_far (p := ⟨gb113, 1, none⟩) (by first | (rw [add_block]; exact hn114_1) | (show (Addr.add _ _).block ≠ _; rw [add_block]; exact hn114_1) | exact hn114_1) (.int .i64 (wrap64 (Int.tmod (IntKind.u64.wrap ((rd_T176 l0 x4_1).f1)) 4611686018427387905)))).trans hx114_0
          replace hx114_1 := (cell_far (p := ⟨gb113, 1, none⟩) (by first | (rw [add_block]; exact hn114_1) | (show (Addr.add _ _).block ≠ _; rw [add_block]; exact hn114_1) | exact hn114_1) (.int .i64 (wrap64 (Int.tmod (IntKind.u64.wrap ((rd_T176 l0 x4_1).f1)) 4611686018427387905)))).trans hx114_1
          clear hn114_0
          clear hn114_1
          replace p114 := eq_true p114
          replace q114 := eq_true q114
          go_wp2
          go_meet
          case rel => exact ⟨_, (decide (((rd_T176 l0 x4_1).f0) ≥ 0)), (by first | rfl | (simp; done) | (simp [*]; done)), H', ⟨by have := HK1.out; have := HJ1.out; first | omega | exact Nat.le_refl _⟩, ⟨by (with_reducible repeat (first | apply Kd.RA | apply Kd.RN | apply Kd.RD)); exact Kd.R_mono (Kd.R_far (p := ⟨gb113, 1, none⟩) (Kd.R_far (p := ⟨gb113, 0, none⟩) (Kd.R_mono HO_3.out (fun k_ hk => (⟨hk, hk.2⟩ : _ ∧ k_ ≠ gb113))) (fun _ hk => hk.2) (.int .i64 (-1))) (fun _ hk => hk.2) (.int .i64 (wrap64 (Int.tmod (IntKind.u64.wrap ((rd_T176 l0 x4_1).f1)) 4611686018427387905)))) (fun _ hk => hk.1.2)⟩, ⟨by (with_reducible repeat (first | apply kN | apply kD | apply kA)); refine blk_put (cs := #[.int .i64 (-1), .int .i64 0]) ?_ 1 _ rfl; (with_reducible repeat (first | apply kN | apply kD | apply kA)); refine blk_put (cs := #[.int .i64 0, .int .i64 0]) ?_ 0 _ rfl; (with_reducible repeat (first | apply kN | apply kD | apply kA)); exact BK113.out⟩, ⟨by repeat (first | (with_reducible first | exact HB.out | apply bA | apply bN | apply bD | refine bS ?_ GE113.out) | exact HB.out)⟩⟩
         ·rw [if_neg c10] at H
          have c10b0 : decide (0 < x4_1) = false := decide_eq_false c10
          clear c10
          (first | rw [c10b0] | (simp only [i64_w, i32_w]; rw [c10b0]) | skip)
          have H' := A0s.mk H
          clear H
          go_wp2
          go_meet
          case rel => exact ⟨_, (false), (by first | rfl | (simp; done) | (simp [*]; done)), H', ⟨by have := HK1.out; have := HJ1.out; first | omega | exact Nat.le_refl _⟩, ⟨by (with_reducible repeat (first | apply Kd.RA | apply Kd.RN | apply Kd.RD)); exact Kd.R_mono (Kd.R_far (p := ⟨gb113, 1, none⟩) (Kd.R_far (p := ⟨gb113, 0, none⟩) (Kd.R_mono HO_3.out (fun k_ hk => (⟨hk, hk.2⟩ : _ ∧ k_ ≠ gb113))) (fun _ hk => hk.2) (.int .i64 (-1))) (fun _ hk => hk.2) (.int .i64 (wrap64 (Int.tmod (IntKind.u64.wrap ((rd_T176 l0 x4_1).f1)) 4611686018427387905)))) (fun _ hk => hk.1.2)⟩, ⟨by (with_reducible repeat (first | apply kN | apply kD | apply kA)); refine blk_put (cs := #[.int .i64 (-1), .int .i64 0]) ?_ 1 _ rfl; (with_reducible repeat (first | apply kN | apply kD | apply kA)); refine blk_put (cs := #[.int .i64 0, .int .i64 0]) ?_ 0 _ rfl; (with_reducible repeat (first | apply kN | apply kD | apply kA)); exact BK113.out⟩, ⟨by repeat (first | (with_reducible first | exact HB.out | apply bA | apply bN | apply bD | refine bS ?_ GE113.out) | exact HB.out)⟩⟩
        case rest =>
         clear HC7
         try clear c1
         try clear p1
         try clear q1
         try clear hx1
         try clear p2
         try clear c3
         try clear c3b0
         try clear c4
         try clear c5
         try clear c5b0
         try clear c6
         try clear c6b0
         try clear p6
         try clear c7
         try clear c10
         try clear c10b0
         try clear hcz9_0
         try clear hcz9_1
         try clear hfz9_0
         try clear hfz9_1
         try clear hx112_0
         try clear hx112_1
         try clear hx114_0
         try clear hx114_1
         try clear p112
         try clear p114
         try clear p2
         try clear q112
         try clear q114
         obtain ⟨kq, x34_6, rfl, HA, HJ6, HO_3, BK113, HB⟩ := hcut
         cases kq with
         | zero => exact absurd HA.out (by simp [stopgateref03_Fix.j2])
         | succ kj6 =>
          have H := HA.out
          clear HA
          simp only [stopgateref03_Fix.j2] at H
          by_cases c11 : x34_6 = true
          ·subst c11
           have H1 : (if 0 ≤ x4_1 then (if x4_1 < (l0.length : Int) then (if x4_1 = 0 then (none) else ((stopgateref03_Path.f kj6 x3_1 (Int.tmod ((rd_T176 l0 x4_1).f0) x4_1)).bind fun t116 => (if (t116.length : Int) ≥ 3 then (if x3_1.length < 8796093022208 then (stopgateref03_Fix.l0 kj6 l0 (x3_1 ++ [(⟨(-1), (wrap64 (Int.tmod (IntKind.u64.wrap ((rd_T176 l0 x4_1).f1)) 4611686018427387905))⟩ : S176)]) (wrap64 (x4_1 + 1))) else (none)) else (if x3_1.length < 8796093022208 then (stopgateref03_Fix.l0 kj6 l0 (x3_1 ++ [(⟨Int.tmod ((rd_T176 l0 x4_1).f0) x4_1, (wrap64 (Int.tmod (IntKind.u64.wrap ((rd_T176 l0 x4_1).f1)) 4611686018427387905))⟩ : S176)]) (wrap64 (x4_1 + 1))) else (none))))) else (none)) else (none)) = some r := by rw [if_pos rfl] at H; exact H
           clear H
           have H := H1
           clear H1
           by_cases c12 : 0 ≤ x4_1
           ·rw [if_pos c12] at H
            have c12b0 : decide (0 ≤ x4_1) = true := decide_eq_true c12
            clear c12
            by_cases c13 : x4_1 < (l0.length : Int)
            ·rw [if_pos c13] at H
             have c13b0 : decide (x4_1 < (l0.length : Int)) = true := decide_eq_true c13
             clear c13
             by_cases c14 : x4_1 = 0
             ·rw [if_pos c14] at H
              exact absurd H (by simp)
             ·rw [if_neg c14] at H
              have c14b0 : (x4_1 == 0) = false := beq_eq_false_iff_ne.mpr c14
              have c14b1 : (x4_1 != 0) = true := bne_iff_ne.mpr c14
              replace H := Option.bind_eq_some_iff.mp H
              obtain ⟨t116, A150, H⟩ := H
              replace H : (if (t116.length : Int) ≥ 3 then (if x3_1.length < 8796093022208 then (stopgateref03_Fix.l0 kj6 l0 (x3_1 ++ [(⟨(-1), (wrap64 (Int.tmod (IntKind.u64.wrap ((rd_T176 l0 x4_1).f1)) 4611686018427387905))⟩ : S176)]) (wrap64 (x4_1 + 1))) else (none)) else (if x3_1.length < 8796093022208 then (stopgateref03_Fix.l0 kj6 l0 (x3_1 ++ [(⟨Int.tmod ((rd_T176 l0 x4_1).f0) x4_1, (wrap64 (Int.tmod (IntKind.u64.wrap ((rd_T176 l0 x4_1).f1)) 4611686018427387905))⟩ : S176)]) (wrap64 (x4_1 + 1))) else (none))) = some r := H
              have A15 := A0s.mk A150
              clear A150
              by_cases c16 : (t116.length : Int) ≥ 3
              ·rw [if_pos c16] at H
               have c16b0 : decide (3 ≤ (t116.length : Int)) = true := decide_eq_true c16
               have c16b1 : decide (3 ≤ t116.length) = true := decide_eq_true (by omega)
               clear c16
               by_cases c17 : x3_1.length < 8796093022208
               ·rw [if_pos c17] at H
                have LMc17 := A0s.mk c17
                clear c17
                obtain ⟨y119, hy119⟩ : ∃ y_ : List (S176), y_ = (x3_1 ++ [(⟨(-1), (wrap64 (Int.tmod (IntKind.u64.wrap ((rd_T176 l0 x4_1).f1)) 4611686018427387905))⟩ : S176)]) := ⟨_, rfl⟩
                replace H : (stopgateref03_Fix.l0 kj6 l0 y119 (wrap64 (x4_1 + 1))) = some r := by first | (rw [hy119]; with_reducible exact H) | (have H2_ := (Option.bind_some _ _).symm.trans H; rw [hy119]; with_reducible exact H2_) | (have H2_ := (Option.bind_some _ _).symm.trans H; with_reducible exact H2_) | with_reducible exact H | (rw [hy119]; exact H) | exact H
                have Ny119 := A0s.mk hy119
                clear hy119
                have H' := A0s.mk H
                clear H
                have p115 : 0 ≤ (x4_1 : Int) := of_decide_eq_true (by first | (with_reducible assumption) | assumption)
                have q115 : x4_1 < (l0.length : Int) := of_decide_eq_true (by first | (with_reducible assumption) | assumption)
                obtain ⟨ad115, e115, hx115_0, hx115_1⟩ := at_T176 HR0.out x4_1 p115 q115
                obtain rfl : ad112 = ad115 := (by injection e115)
                replace hx115_0 := (HB.out.cell (World.block_lt_of_cell? w _ hx115_0)).trans hx115_0
                replace hx115_1 := (HB.out.cell (World.block_lt_of_cell? w _ hx115_1)).trans hx115_1
                replace p115 := eq_true p115
                replace q115 := eq_true q115
                obtain ⟨hcz18_0, hcz18_1, hfz18_0, hfz18_1⟩ := blk_all2 BK113.out
                obtain ⟨Ao19, co19, eo19⟩ := Kd.R_slice HO_3.out
                subst eo19
                go_wp2_with (first | ((with_reducible refine gC (f := 101) rfl ?_); refine gL (some 46) rfl rfl Try.func101 (by kernel_rfl) rfl #[.slice Ao19 x3_1.length co19, .int .i64 (Int.tmod ((rd_T176 l0 x4_1).f0) x4_1)] rfl (by (try simp only [List.map_toArray, List.map_cons, List.map_nil]); first | done | rfl | (simp only [List.length_drop, List.length_take]; rfl)) ?_; (with_reducible refine (stopgateref03_Path.calls kj6 _ _ x3_1 (Int.tmod ((rd_T176 l0 x4_1).f0) x4_1) t116 _ ?side1 ?side2 A15.out).mono ?_); (case side1 => refine (Kd.R_reads' (e := 176) (base := w.heap.size) (ok := fun k_ => k_ ≠ gb113) (n := x3_1.length) (c := co19) ?_).2.2; exact (by (with_reducible repeat (first | apply Kd.RA | apply Kd.RN | apply Kd.RD)); exact (Kd.R_mono (Kd.R_far (p := ⟨gb113, 0, none⟩) (Kd.R_mono HO_3.out (fun k_ hk => (⟨hk, hk⟩ : _ ∧ k_ ≠ gb113))) (fun _ hk => hk.2) (.int .i64 (Int.tmod ((rd_T176 l0 x4_1).f0) x4_1))) (fun _ h_ => h_.1)))); (case side2 => exact (Kd.R_reads' HO_3.out).2.1); rintro e w20 ⟨v117, rfl, ho0, hb⟩; refine ⟨_, rfl, ?_⟩; have n0_ := A0s.mk (Kd.R_below (by (with_reducible repeat (first | apply Kd.RA | apply Kd.RN | apply Kd.RD)); exact (Kd.R_mono (Kd.R_far (p := ⟨gb113, 0, none⟩) (Kd.R_mono HO_3.out (fun k_ hk => (⟨hk, hk⟩ : _ ∧ k_ ≠ gb113))) (fun _ hk => hk.2) (.int .i64 (Int.tmod ((rd_T176 l0 x4_1).f0) x4_1))) (fun _ h_ => h_.1))) hb); have n1_ := A0s.mk (Kd.R_lower ho0 (below_size (by repeat (first | (with_reducible first | exact HB.out | apply bA | apply bN | apply bD | refine bS ?_ GE113.out) | exact HB.out)))); have n2_ := A0s.mk (blk_below (g := gb113) (o := .cells #[.int .i64 (Int.tmod ((rd_T176 l0 x4_1).f0) x4_1), .int .i64 (wrap64 (Int.tmod (IntKind.u64.wrap ((rd_T176 l0 x4_1).f1)) 4611686018427387905))] 176 (0, 0)) (by (with_reducible repeat (first | apply kN | apply kD | apply kA)); refine blk_put (cs := #[.int .i64 (-1), .int .i64 (wrap64 (Int.tmod (IntKind.u64.wrap ((rd_T176 l0 x4_1).f1)) 4611686018427387905))]) ?_ 0 _ rfl; (with_reducible repeat (first | apply kN | apply kD | apply kA)); exact BK113.out) hb); have n3_ := A0s.mk (below_step (by repeat (first | (with_reducible first | exact HB.out | apply bA | apply bN | apply bD | refine bS ?_ GE113.out) | exact HB.out)) hb); clear HO_3; clear BK113; clear HB; have HO_3 := n0_; have HO118 := n1_; have BK113 := n2_; have HB := n3_; clear n0_ n1_ n2_ n3_; (try clear hb); (try clear hb2); (try clear hk); (try clear hi); (try clear ho0); obtain ⟨Ao21, co21, eo21⟩ := Kd.R_slice HO118.out; subst eo21; obtain ⟨hcz22_0, hcz22_1, hfz22_0, hfz22_1⟩ := blk_all2 BK113.out) | ((with_reducible refine gate_builtin (b := .append) (xs := #[.tmp 50, .tmp 52]) rfl ?_); at_builtin; refine Kd.R_append k176 (w0 := w) w.heap.size rfl (.tmp 50) (.tmp 52) 75 176 (.agg #[(.int .i64 0), (.int .i64 0)]) 16 rfl Try.underlying75 info176 rfl (by decide) (by omega) (.slice Ao19 x3_1.length co19) x3_1 (⟨(-1), (wrap64 (Int.tmod (IntKind.u64.wrap ((rd_T176 l0 x4_1).f1)) 4611686018427387905))⟩ : S176) [.int .i64 (-1), .int .i64 (wrap64 (Int.tmod (IntKind.u64.wrap ((rd_T176 l0 x4_1).f1)) 4611686018427387905))] (fun k_ => k_ ≠ gb113) (fun _ => False) rfl (by first | (go_simp; done) | (go_simp; rfl)) ?aP (fun _ hk => hk.elim) ?aF ?aO ?aB ?aS ?aL ?_; (case aP => exact k176_mkM _ _ _ (⟨(-1), (wrap64 (Int.tmod (IntKind.u64.wrap ((rd_T176 l0 x4_1).f1)) 4611686018427387905))⟩ : S176)); (case aB => exact (by repeat (first | (with_reducible first | exact HB.out | apply bA | apply bN | apply bD | refine bS ?_ GE113.out) | exact HB.out))); (case aF => exact (fun k_ hk => Kd.freshB (g := gb113) (o := .cells #[.int .i64 (-1), .int .i64 (wrap64 (Int.tmod (IntKind.u64.wrap ((rd_T176 l0 x4_1).f1)) 4611686018427387905))] 176 (0, 0)) (by (with_reducible repeat (first | apply kN | apply kD | apply kA)); refine blk_put (cs := #[.int .i64 (Int.tmod ((rd_T176 l0 x4_1).f0) x4_1), .int .i64 (wrap64 (Int.tmod (IntKind.u64.wrap ((rd_T176 l0 x4_1).f1)) 4611686018427387905))]) ?_ 0 _ rfl; (with_reducible repeat (first | apply kN | apply kD | apply kA)); exact BK113.out) k_ hk)); (case aO => exact (by (with_reducible repeat (first | apply Kd.RA | apply Kd.RN | apply Kd.RD)); exact Kd.R_mono (Kd.R_far (p := ⟨gb113, 0, none⟩) (Kd.R_mono HO_3.out (fun k_ hk => (⟨hk, hk⟩ : _ ∧ k_ ≠ gb113))) (fun _ hk => hk.2) (.int .i64 (-1))) (fun _ hk => hk.1))); (case aS => exact (below_size (by repeat (first | (with_reducible first | exact HB.out | apply bA | apply bN | apply bD | refine bS ?_ GE113.out) | exact HB.out)))); (case aL => have := LMc17.out; omega); intro v120 w23 ho hb hg hat; rw [← Ny119.out] at ho; have n0_ := A0s.mk (blk_grown (g := gb113) (o := .cells #[.int .i64 (-1), .int .i64 (wrap64 (Int.tmod (IntKind.u64.wrap ((rd_T176 l0 x4_1).f1)) 4611686018427387905))] 176 (0, 0)) (by (with_reducible repeat (first | apply kN | apply kD | apply kA)); refine blk_put (cs := #[.int .i64 (Int.tmod ((rd_T176 l0 x4_1).f0) x4_1), .int .i64 (wrap64 (Int.tmod (IntKind.u64.wrap ((rd_T176 l0 x4_1).f1)) 4611686018427387905))]) ?_ 0 _ rfl; (with_reducible repeat (first | apply kN | apply kD | apply kA)); exact BK113.out) hg (Kd.R_away HO_3.out (fun _ hk => hk))); have n1_ := A0s.mk (Kd.R_over' (by (with_reducible repeat (first | apply Kd.RA | apply Kd.RN | apply Kd.RD)); exact (Kd.R_mono (Kd.R_far (p := ⟨gb113, 0, none⟩) (Kd.R_types HO118.out BK113.out (by decide)) (fun _ hk => hk.2) (.int .i64 (-1))) (fun _ h_ => h_.1))) (Kd.R_typed (by (with_reducible repeat (first | apply Kd.RA | apply Kd.RN | apply Kd.RD)); exact (Kd.R_mono (Kd.R_far (p := ⟨gb113, 0, none⟩) (Kd.R_mono HO_3.out (fun k_ hk => (⟨hk, hk⟩ : _ ∧ k_ ≠ gb113))) (fun _ hk => hk.2) (.int .i64 (-1))) (fun _ h_ => h_.1)))) (by decide) hg); have n2_ := A0s.mk (hb); have n3_ := A0s.mk (ho); clear BK113; clear HO118; clear HB; clear HO_3; have BK113 := n0_; have HO118 := n1_; have HB := n2_; have HO121 := n3_; clear n0_ n1_ n2_ n3_; clear ho hb hg hat))
                go_roundg kj6
                case measure => have := HK1.out; have := HJ1.out; have := HJ6.out; omega
                case rel => exact ⟨(y119), (wrap64 (x4_1 + 1)), (by first | rfl | (simp; done) | (simp [*]; done)), H', ⟨by have := HK1.out; have := HJ1.out; have := HJ6.out; omega⟩, ⟨by (with_reducible repeat (first | apply Kd.RA | apply Kd.RN | apply Kd.RD)); exact Kd.R_mono HO121.out (fun _ hk => trivial)⟩, ⟨by repeat (first | (with_reducible first | exact HB.out | apply bA | apply bN | apply bD | refine bS ?_ GE113.out) | exact HB.out)⟩⟩
               ·rw [if_neg c17] at H
                exact absurd H (by simp)
              ·rw [if_neg c16] at H
               have c16b0 : decide (3 ≤ (t116.length : Int)) = false := decide_eq_false c16
               have c16b1 : decide (3 ≤ t116.length) = false := decide_eq_false (by omega)
               clear c16
               by_cases c24 : x3_1.length < 8796093022208
               ·rw [if_pos c24] at H
                have LMc24 := A0s.mk c24
                clear c24
                obtain ⟨y122, hy122⟩ : ∃ y_ : List (S176), y_ = (x3_1 ++ [(⟨Int.tmod ((rd_T176 l0 x4_1).f0) x4_1, (wrap64 (Int.tmod (IntKind.u64.wrap ((rd_T176 l0 x4_1).f1)) 4611686018427387905))⟩ : S176)]) := ⟨_, rfl⟩
                replace H : (stopgateref03_Fix.l0 kj6 l0 y122 (wrap64 (x4_1 + 1))) = some r := by first | (rw [hy122]; with_reducible exact H) | (have H2_ := (Option.bind_some _ _).symm.trans H; rw [hy122]; with_reducible exact H2_) | (have H2_ := (Option.bind_some _ _).symm.trans H; with_reducible exact H2_) | with_reducible exact H | (rw [hy122]; exact H) | exact H
                have Ny122 := A0s.mk hy122
                clear hy122
                have H' := A0s.mk H
                clear H
                have p115 : 0 ≤ (x4_1 : Int) := of_decide_eq_true (by first | (with_reducible assumption) | assumption)
                have q115 : x4_1 < (l0.length : Int) := of_decide_eq_true (by first | (with_reducible assumption) | assumption)
                obtain ⟨ad115, e115, hx115_0, hx115_1⟩ := at_T176 HR0.out x4_1 p115 q115
                obtain rfl : ad112 = ad115 := (by injection e115)
                replace hx115_0 := (HB.out.cell (World.block_lt_of_cell? w _ hx115_0)).trans hx115_0
                replace hx115_1 := (HB.out.cell (World.block_lt_of_cell? w _ hx115_1)).trans hx115_1
                replace p115 := eq_true p115
                replace q115 := eq_true q115
                obtain ⟨hcz25_0, hcz25_1, hfz25_0, hfz25_1⟩ := blk_all2 BK113.out
                obtain ⟨Ao26, co26, eo26⟩ := Kd.R_slice HO_3.out
                subst eo26
                go_wp2_with (first | ((with_reducible refine gC (f := 101) rfl ?_); refine gL (some 46) rfl rfl Try.func101 (by kernel_rfl) rfl #[.slice Ao26 x3_1.length co26, .int .i64 (Int.tmod ((rd_T176 l0 x4_1).f0) x4_1)] rfl (by (try simp only [List.map_toArray, List.map_cons, List.map_nil]); first | done | rfl | (simp only [List.length_drop, List.length_take]; rfl)) ?_; (with_reducible refine (stopgateref03_Path.calls kj6 _ _ x3_1 (Int.tmod ((rd_T176 l0 x4_1).f0) x4_1) t116 _ ?side1 ?side2 A15.out).mono ?_); (case side1 => refine (Kd.R_reads' (e := 176) (base := w.heap.size) (ok := fun k_ => k_ ≠ gb113) (n := x3_1.length) (c := co26) ?_).2.2; exact (by (with_reducible repeat (first | apply Kd.RA | apply Kd.RN | apply Kd.RD)); exact (Kd.R_mono (Kd.R_far (p := ⟨gb113, 0, none⟩) (Kd.R_mono HO_3.out (fun k_ hk => (⟨hk, hk⟩ : _ ∧ k_ ≠ gb113))) (fun _ hk => hk.2) (.int .i64 (Int.tmod ((rd_T176 l0 x4_1).f0) x4_1))) (fun _ h_ => h_.1)))); (case side2 => exact (Kd.R_reads' HO_3.out).2.1); rintro e w27 ⟨v117, rfl, ho0, hb⟩; refine ⟨_, rfl, ?_⟩; have n0_ := A0s.mk (Kd.R_below (by (with_reducible repeat (first | apply Kd.RA | apply Kd.RN | apply Kd.RD)); exact (Kd.R_mono (Kd.R_far (p := ⟨gb113, 0, none⟩) (Kd.R_mono HO_3.out (fun k_ hk => (⟨hk, hk⟩ : _ ∧ k_ ≠ gb113))) (fun _ hk => hk.2) (.int .i64 (Int.tmod ((rd_T176 l0 x4_1).f0) x4_1))) (fun _ h_ => h_.1))) hb); have n1_ := A0s.mk (Kd.R_lower ho0 (below_size (by repeat (first | (with_reducible first | exact HB.out | apply bA | apply bN | apply bD | refine bS ?_ GE113.out) | exact HB.out)))); have n2_ := A0s.mk (blk_below (g := gb113) (o := .cells #[.int .i64 (Int.tmod ((rd_T176 l0 x4_1).f0) x4_1), .int .i64 (wrap64 (Int.tmod (IntKind.u64.wrap ((rd_T176 l0 x4_1).f1)) 4611686018427387905))] 176 (0, 0)) (by (with_reducible repeat (first | apply kN | apply kD | apply kA)); refine blk_put (cs := #[.int .i64 (-1), .int .i64 (wrap64 (Int.tmod (IntKind.u64.wrap ((rd_T176 l0 x4_1).f1)) 4611686018427387905))]) ?_ 0 _ rfl; (with_reducible repeat (first | apply kN | apply kD | apply kA)); exact BK113.out) hb); have n3_ := A0s.mk (below_step (by repeat (first | (with_reducible first | exact HB.out | apply bA | apply bN | apply bD | refine bS ?_ GE113.out) | exact HB.out)) hb); clear HO_3; clear BK113; clear HB; have HO_3 := n0_; have HO118 := n1_; have BK113 := n2_; have HB := n3_; clear n0_ n1_ n2_ n3_; (try clear hb); (try clear hb2); (try clear hk); (try clear hi); (try clear ho0); obtain ⟨Ao28, co28, eo28⟩ := Kd.R_slice HO118.out; subst eo28; obtain ⟨hcz29_0, hcz29_1, hfz29_0, hfz29_1⟩ := blk_all2 BK113.out) | ((with_reducible refine gate_builtin (b := .append) (xs := #[.tmp 50, .tmp 52]) rfl ?_); at_builtin; refine Kd.R_append k176 (w0 := w) w.heap.size rfl (.tmp 50) (.tmp 52) 75 176 (.agg #[(.int .i64 0), (.int .i64 0)]) 16 rfl Try.underlying75 info176 rfl (by decide) (by omega) (.slice Ao26 x3_1.length co26) x3_1 (⟨Int.tmod ((rd_T176 l0 x4_1).f0) x4_1, (wrap64 (Int.tmod (IntKind.u64.wrap ((rd_T176 l0 x4_1).f1)) 4611686018427387905))⟩ : S176) [.int .i64 (Int.tmod ((rd_T176 l0 x4_1).f0) x4_1), .int .i64 (wrap64 (Int.tmod (IntKind.u64.wrap ((rd_T176 l0 x4_1).f1)) 4611686018427387905))] (fun k_ => k_ ≠ gb113) (fun _ => False) rfl rfl ?aP (fun _ hk => hk.elim) ?aF ?aO ?aB ?aS ?aL ?_; (case aP => exact k176_mkM _ _ _ (⟨Int.tmod ((rd_T176 l0 x4_1).f0) x4_1, (wrap64 (Int.tmod (IntKind.u64.wrap ((rd_T176 l0 x4_1).f1)) 4611686018427387905))⟩ : S176)); (case aB => exact (by repeat (first | (with_reducible first | exact HB.out | apply bA | apply bN | apply bD | refine bS ?_ GE113.out) | exact HB.out))); (case aF => exact (fun k_ hk => Kd.freshB (g := gb113) (o := .cells #[.int .i64 (Int.tmod ((rd_T176 l0 x4_1).f0) x4_1), .int .i64 (wrap64 (Int.tmod (IntKind.u64.wrap ((rd_T176 l0 x4_1).f1)) 4611686018427387905))] 176 (0, 0)) (by (with_reducible repeat (first | apply kN | apply kD | apply kA)); exact BK113.out) k_ hk)); (case aO => exact (by (with_reducible repeat (first | apply Kd.RA | apply Kd.RN | apply Kd.RD)); exact HO_3.out)); (case aS => exact (below_size (by repeat (first | (with_reducible first | exact HB.out | apply bA | apply bN | apply bD | refine bS ?_ GE113.out) | exact HB.out)))); (case aL => have := LMc24.out; omega); intro v123 w30 ho hb hg hat; rw [← Ny122.out] at ho; have n0_ := A0s.mk (blk_grown (g := gb113) (o := .cells #[.int .i64 (Int.tmod ((rd_T176 l0 x4_1).f0) x4_1), .int .i64 (wrap64 (Int.tmod (IntKind.u64.wrap ((rd_T176 l0 x4_1).f1)) 4611686018427387905))] 176 (0, 0)) (by (with_reducible repeat (first | apply kN | apply kD | apply kA)); exact BK113.out) hg (Kd.R_away HO_3.out (fun _ hk => hk))); have n1_ := A0s.mk (Kd.R_over' (by (with_reducible repeat (first | apply Kd.RA | apply Kd.RN | apply Kd.RD)); exact HO118.out) (Kd.R_typed (by (with_reducible repeat (first | apply Kd.RA | apply Kd.RN | apply Kd.RD)); exact HO_3.out)) (by decide) hg); have n2_ := A0s.mk (hb); have n3_ := A0s.mk (ho); clear BK113; clear HO118; clear HB; clear HO_3; have BK113 := n0_; have HO118 := n1_; have HB := n2_; have HO124 := n3_; clear n0_ n1_ n2_ n3_; clear ho hb hg hat))
                go_roundg kj6
                case measure => have := HK1.out; have := HJ1.out; have := HJ6.out; omega
                case rel => exact ⟨(y122), (wrap64 (x4_1 + 1)), (by first | rfl | (simp; done) | (simp [*]; done)), H', ⟨by have := HK1.out; have := HJ1.out; have := HJ6.out; omega⟩, ⟨by (with_reducible repeat (first | apply Kd.RA | apply Kd.RN | apply Kd.RD)); exact Kd.R_mono HO124.out (fun _ hk => trivial)⟩, ⟨by repeat (first | (with_reducible first | exact HB.out | apply bA | apply bN | apply bD | refine bS ?_ GE113.out) | exact HB.out)⟩⟩
               ·rw [if_neg c24] at H
                exact absurd H (by simp)
            ·rw [if_neg c13] at H
             exact absurd H (by simp)
           ·rw [if_neg c12] at H
            exact absurd H (by simp)
          ·replace c11 := Bool.eq_false_iff.mpr c11
           subst c11
           have H1 : (if x3_1.length < 8796093022208 then (stopgateref03_Fix.l0 kj6 l0 (x3_1 ++ [(⟨(-1), (wrap64 (Int.tmod (IntKind.u64.wrap ((rd_T176 l0 x4_1).f1)) 4611686018427387905))⟩ : S176)]) (wrap64 (x4_1 + 1))) else (none)) = some r := by rw [if_neg (show ¬ (false = true) by decide)] at H; exact H
           clear H
           have H := H1
           clear H1
           by_cases c31 : x3_1.length < 8796093022208
           ·rw [if_pos c31] at H
            have LMc31 := A0s.mk c31
            clear c31
            obtain ⟨y125, hy125⟩ : ∃ y_ : List (S176), y_ = (x3_1 ++ [(⟨(-1), (wrap64 (Int.tmod (IntKind.u64.wrap ((rd_T176 l0 x4_1).f1)) 4611686018427387905))⟩ : S176)]) := ⟨_, rfl⟩
            replace H : (stopgateref03_Fix.l0 kj6 l0 y125 (wrap64 (x4_1 + 1))) = some r := by first | (rw [hy125]; with_reducible exact H) | (have H2_ := (Option.bind_some _ _).symm.trans H; rw [hy125]; with_reducible exact H2_) | (have H2_ := (Option.bind_some _ _).symm.trans H; with_reducible exact H2_) | with_reducible exact H | (rw [hy125]; exact H) | exact H
            have Ny125 := A0s.mk hy125
            clear hy125
            have H' := A0s.mk H
            clear H
            obtain ⟨hcz32_0, hcz32_1, hfz32_0, hfz32_1⟩ := blk_all2 BK113.out
            go_wp2_with (first | ((with_reducible refine gate_builtin (b := .append) (xs := #[.tmp 50, .tmp 52]) rfl ?_); at_builtin; refine Kd.R_append k176 (w0 := w) w.heap.size rfl (.tmp 50) (.tmp 52) 75 176 (.agg #[(.int .i64 0), (.int .i64 0)]) 16 rfl Try.underlying75 info176 rfl (by decide) (by omega) u3 x3_1 (⟨(-1), (wrap64 (Int.tmod (IntKind.u64.wrap ((rd_T176 l0 x4_1).f1)) 4611686018427387905))⟩ : S176) [.int .i64 (-1), .int .i64 (wrap64 (Int.tmod (IntKind.u64.wrap ((rd_T176 l0 x4_1).f1)) 4611686018427387905))] (fun k_ => k_ ≠ gb113) (fun _ => False) rfl rfl ?aP (fun _ hk => hk.elim) ?aF ?aO ?aB ?aS ?aL ?_; (case aP => exact k176_mkM _ _ _ (⟨(-1), (wrap64 (Int.tmod (IntKind.u64.wrap ((rd_T176 l0 x4_1).f1)) 4611686018427387905))⟩ : S176)); (case aB => exact (by repeat (first | (with_reducible first | exact HB.out | apply bA | apply bN | apply bD | refine bS ?_ GE113.out) | exact HB.out))); (case aF => exact (fun k_ hk => Kd.freshB (g := gb113) (o := .cells #[.int .i64 (-1), .int .i64 (wrap64 (Int.tmod (IntKind.u64.wrap ((rd_T176 l0 x4_1).f1)) 4611686018427387905))] 176 (0, 0)) (by (with_reducible repeat (first | apply kN | apply kD | apply kA)); exact BK113.out) k_ hk)); (case aO => exact (by (with_reducible repeat (first | apply Kd.RA | apply Kd.RN | apply Kd.RD)); exact HO_3.out)); (case aS => exact (below_size (by repeat (first | (with_reducible first | exact HB.out | apply bA | apply bN | apply bD | refine bS ?_ GE113.out) | exact HB.out)))); (case aL => have := LMc31.out; omega); intro v126 w33 ho hb hg hat; rw [← Ny125.out] at ho; have n0_ := A0s.mk (blk_grown (g := gb113) (o := .cells #[.int .i64 (-1), .int .i64 (wrap64 (Int.tmod (IntKind.u64.wrap ((rd_T176 l0 x4_1).f1)) 4611686018427387905))] 176 (0, 0)) (by (with_reducible repeat (first | apply kN | apply kD | apply kA)); exact BK113.out) hg (Kd.R_away HO_3.out (fun _ hk => hk))); have n1_ := A0s.mk (hb); have n2_ := A0s.mk (ho); clear BK113; clear HB; clear HO_3; have BK113 := n0_; have HB := n1_; have HO127 := n2_; clear n0_ n1_ n2_; clear ho hb hg hat))
            go_roundg kj6
            case measure => have := HK1.out; have := HJ1.out; have := HJ6.out; omega
            case rel => exact ⟨(y125), (wrap64 (x4_1 + 1)), (by first | rfl | (simp; done) | (simp [*]; done)), H', ⟨by have := HK1.out; have := HJ1.out; have := HJ6.out; omega⟩, ⟨by (with_reducible repeat (first | apply Kd.RA | apply Kd.RN | apply Kd.RD)); exact Kd.R_mono HO127.out (fun _ hk => trivial)⟩, ⟨by repeat (first | (with_reducible first | exact HB.out | apply bA | apply bN | apply bD | refine bS ?_ GE113.out) | exact HB.out)⟩⟩
           ·rw [if_neg c31] at H
            exact absurd H (by simp)
       ·rw [if_neg c6] at H
        exact absurd H (by simp)
      ·rw [if_neg c5] at H
       exact absurd H (by simp)
     ·replace c4 := Bool.eq_false_iff.mpr c4
      subst c4
      have H1 : (if (x3_1.length : Int) = 0 then (some (([(⟨(-1), 1000⟩ : S176)] : List (S176)))) else (some x3_1)) = some r := by rw [if_neg (show ¬ (false = true) by decide)] at H; exact H
      clear H
      have H := H1
      clear H1
      by_cases c34 : (x3_1.length : Int) = 0
      ·rw [if_pos c34] at H
       have c34b0 : ((x3_1.length : Int) == 0) = true := beq_iff_eq.mpr c34
       have c34b1 : ((x3_1.length : Int) != 0) = false := bne_eq_false_iff_eq.mpr c34
       clear c34
       obtain ⟨y109, hy109⟩ : ∃ y_ : List (S176), y_ = (([(⟨(-1), 1000⟩ : S176)] : List (S176))) := ⟨_, rfl⟩
       replace H : (some y109) = some r := by first | (rw [hy109]; with_reducible exact H) | (have H2_ := (Option.bind_some _ _).symm.trans H; rw [hy109]; with_reducible exact H2_) | (have H2_ := (Option.bind_some _ _).symm.trans H; with_reducible exact H2_) | with_reducible exact H | (rw [hy109]; exact H) | exact H
       have Ny109 := A0s.mk hy109
       clear hy109
       obtain rfl := Option.some.inj H
       obtain ⟨Ao35, co35, eo35⟩ := Kd.R_slice HO_3.out
       subst eo35
       go_wp2_with (first | ((with_reducible refine gate_dst (N := 58) rfl ?_); refine Kd.R_lit k176 _ 176 ?hg (N := 58) ?hd (xs := ([(⟨(-1), 1000⟩ : S176)] : List (S176))) (inner := [.int .i64 (-1), .int .i64 1000]) (ok := fun _ => True) (okp := fun _ => True) ?hr ?hp (fun _ hk => hk) trivial (Below.refl _ _) (Nat.le_refl _) (by simp) ?_; (case hd => rfl); (case hg => rfl); (case hr => first | (go_simp; done) | (go_simp; rfl)); (case hp => exact (Reps.c2 (show Kd.M k176 _ _ _ (⟨(-1), 1000⟩ : S176) [.int .i64 (-1), .int .i64 1000] from (k176_mkM _ _ _ (⟨(-1), 1000⟩ : S176) )) (Reps.none _ _))); intro v110 w36 ho37 hb hg_ hnew_; clear hg_ hnew_; (first | rw [← Ny109.out] at ho37 | (simp only [Int.reduceToNat] at ho37; rw [← Ny109.out] at ho37)); have n0_ := A0s.mk (Kd.R_elder' (by (with_reducible repeat (first | apply Kd.RA | apply Kd.RN | apply Kd.RD)); exact HO_3.out) (Kd.R_base ho37) hb); have n1_ := A0s.mk (Kd.R_lower (Kd.R_new' ho37 (Kd.R_lt (by (with_reducible repeat (first | apply Kd.RA | apply Kd.RN | apply Kd.RD)); exact HO_3.out))) (below_size (by repeat (first | (with_reducible first | exact HB.out | apply bA | apply bN | apply bD) | exact HB.out)))); have n2_ := A0s.mk (below_step (by repeat (first | (with_reducible first | exact HB.out | apply bA | apply bN | apply bD) | exact HB.out)) hb); clear HO_3; clear HB; have HO_3 := n0_; have HO111 := n1_; have HB := n2_; clear n0_ n1_ n2_; clear hb ho37))
       go_ret
       exact ⟨_, by first | rfl | (simp [errW_none, errW_some] <;> rfl) | (simp [*, errW_none, errW_some] <;> rfl), by (with_reducible repeat (first | apply Kd.RA | apply Kd.RN | apply Kd.RD)); exact Kd.R_mono HO111.out (fun _ hk => trivial), by repeat (first | (with_reducible first | exact HB.out | apply bA | apply bN | apply bD) | exact HB.out)⟩
      ·rw [if_neg c34] at H
       have c34b0 : ((x3_1.length : Int) == 0) = false := beq_eq_false_iff_ne.mpr c34
       have c34b1 : ((x3_1.length : Int) != 0) = true := bne_iff_ne.mpr c34
       have c34b2 : ¬ (x3_1 = []) := fun h_ => c34 (by rw [h_]; rfl)
       obtain rfl := Option.some.inj H
       obtain ⟨Ao38, co38, eo38⟩ := Kd.R_slice HO_3.out
       subst eo38
       go_wp2
       go_ret
       exact ⟨_, by first | rfl | (simp [errW_none, errW_some] <;> rfl) | (simp [*, errW_none, errW_some] <;> rfl), by (with_reducible repeat (first | apply Kd.RA | apply Kd.RN | apply Kd.RD)); exact HO_3.out, by repeat (first | (with_reducible first | exact HB.out | apply bA | apply bN | apply bD) | exact HB.out)⟩

/-! ### stopgateref02_Right: function 75 -/
def stopgateref02_Right.f (a0 : Nat) : Option (Bool) := some (FloatKind.f64.format.order a0 0 == some .gt || FloatKind.f64.format.order a0 0 == some .eq)
set_option maxHeartbeats 8000000 in
set_option maxRecDepth 100000 in
theorem stopgateref02_Right.calls (a0 : Nat) (r : Bool) (w : World) (h : stopgateref02_Right.f a0 = some r) :
  Calls Try.prog 75 #[.float .f64 a0] w fun e w' => e = .returned (.bool r) ∧ Drawn0 w w' := by
 have H : (some (FloatKind.f64.format.order a0 0 == some .gt || FloatKind.f64.format.order a0 0 == some .eq)) = some r := h
 clear h
 obtain rfl := Option.some.inj H
 go_enter Try.func75, Try.ntmps75
 go_wp2
 go_ret
 exact ⟨by first | rfl | (simp; done) | (simp [*]; done), by repeat (first | exact Drawn0.refl _ | apply Drawn0.step)⟩

end Go.Proofs.Ytgikjgekdeaneaa.QRulesLooks
