/- Printed by wip/gen/myprint.py, a program of this session, for this claim: functions of the program as Lean functions, each with a proof that the Go code comes to its answers. -/
import Derived.Test.YtgikjgekdeaneaaQRulesPricesx0
import Derived.Test.YtgikjgekdeaneaaQRulesPricesx5
namespace Go.Proofs.Ytgikjgekdeaneaa.QRulesPrices
open Go.RowKit Go.Proofs.YtgikjgekdeaneaaW.PrintWords Go.Proofs.YtgikjgekdeaneaaW.PrintLast Go.Proofs.YtgikjgekdeaneaaW.PrintMore
attribute [local go_sem] max2_int min2_int max_two min_two max_three min_three max_four min_four   -- for this text's walks alone
set_option linter.unusedVariables false
set_option linter.unusedSimpArgs false

attribute [local go_sem] run_store_flt
/-! ### fixed_Mul: function 115 -/
def fixed_Mul.j0 : Nat → Int → Int → Bool → Option (Int × Bool)
 | 0, _, _, _ => none
 | k + 1, x0, x1, x12 => if x12 = true then (some (0, true)) else (if x1 = 0 then (none) else (if (wrap64 (Int.tdiv (wrap64 (x0 * x1)) x1)) = x0 then (if x0 = (-1) then (if (wrap64 (x0 * x1)) = x1 then (some (0, false)) else (if x1 = (-1) then (if (wrap64 (x0 * x1)) = x0 then (some (0, false)) else (some (wrap64 (x0 * x1), true))) else (some (wrap64 (x0 * x1), true)))) else (if x1 = (-1) then (if (wrap64 (x0 * x1)) = x0 then (some (0, false)) else (some (wrap64 (x0 * x1), true))) else (some (wrap64 (x0 * x1), true)))) else (some (0, false))))
def fixed_Mul.f (k : Nat) (a0 : Int) (a1 : Int) : Option (Int × Bool) := if a0 = 0 then (fixed_Mul.j0 k a0 a1 true) else (fixed_Mul.j0 k a0 a1 (a1 == 0))
theorem fixed_Mul.mono_l : ∀ k, (∀ y0 y1 y2, LeO (fixed_Mul.j0 k y0 y1 y2) (fixed_Mul.j0 (k + 1) y0 y1 y2))
 | 0 => fun _ _ _ r h => by simp [fixed_Mul.j0] at h
 | k + 1 => by
  have ih0 := fixed_Mul.mono_l k
  ·intro y0 y1 y2
   unfold fixed_Mul.j0
   repeat' first
   | (with_reducible exact ih0 _ _ _)
   | (with_reducible exact LeO.refl _)
   | (with_reducible exact LeO.none _)
   | (with_reducible refine LeO.ite ?_ ?_)
   | (with_reducible refine LeO.bind ?_ (fun _ => ?_))
   | exact ih0 _ _ _
   | exact LeO.none _
   | refine LeO.ite ?_ ?_
   | refine LeO.bind ?_ (fun _ => ?_)
theorem fixed_Mul.mono : ∀ a0 a1 k, LeO (fixed_Mul.f k a0 a1) (fixed_Mul.f (k + 1) a0 a1) := by
 intro a0 a1 k
 have ih0 := fixed_Mul.mono_l k
 unfold fixed_Mul.f
 repeat' first
   | (with_reducible exact ih0 _ _ _)
   | (with_reducible exact LeO.refl _)
   | (with_reducible exact LeO.none _)
   | (with_reducible refine LeO.ite ?_ ?_)
   | (with_reducible refine LeO.bind ?_ (fun _ => ?_))
   | exact ih0 _ _ _
   | exact LeO.none _
   | refine LeO.ite ?_ ?_
   | refine LeO.bind ?_ (fun _ => ?_)
set_option maxHeartbeats 8000000 in
set_option maxRecDepth 100000 in
theorem fixed_Mul.calls (k : Nat) (a0 : Int) (a1 : Int) (r1 : Int) (r2 : Bool) (w : World) (h : fixed_Mul.f k a0 a1 = some (r1, r2)) :
  Calls Try.prog 115 #[.int .i64 a0, .int .i64 a1] w fun e w' => e = .returned (.tuple #[.int .i64 r1, .bool r2]) ∧ Drawn0 w w' := by
 have H : (if a0 = 0 then (fixed_Mul.j0 k a0 a1 true) else (fixed_Mul.j0 k a0 a1 (a1 == 0))) = some (r1, r2) := h
 clear h
 have HC3 := Aside0.mk H
 clear H
 go_enter Try.func115, Try.ntmps115
 go_upto_region 1 with (fail)
 go_cut [12] (fun v12 wc => ∃ (kq : Nat) (x12_2 : Bool), v12 = .bool x12_2 ∧ Aside0 (fixed_Mul.j0 kq a0 a1 x12_2 = some (r1, r2)) ∧ Aside0 (kq ≤ k) ∧ Drawn0 w wc)
 case first =>
  have H := HC3.out
  clear HC3
  by_cases c4 : a0 = 0
  ·rw [if_pos c4] at H
   have c4b0 : (a0 == 0) = true := beq_iff_eq.mpr c4
   have c4b1 : (a0 != 0) = false := bne_eq_false_iff_eq.mpr c4
   clear c4
   (first | rw [c4b0] | (simp only [i64_w, i32_w]; rw [c4b0]) | skip)
   have H' := Aside0.mk H
   clear H
   go_wp2
   go_meet
   case rel => exact ⟨_, (true), (by first | rfl | (simp; done) | (simp [*]; done)), H', ⟨by first | omega | exact Nat.le_refl _⟩, by repeat (first | exact Drawn0.refl _ | apply Drawn0.step)⟩
  ·rw [if_neg c4] at H
   have c4b0 : (a0 == 0) = false := beq_eq_false_iff_ne.mpr c4
   have c4b1 : (a0 != 0) = true := bne_iff_ne.mpr c4
   (first | rw [c4b0] | (simp only [i64_w, i32_w]; rw [c4b0]) | skip)
   have H' := Aside0.mk H
   clear H
   go_wp2
   go_meet
   case rel => exact ⟨_, ((a1 == 0)), (by first | rfl | (simp; done) | (simp [*]; done)), H', ⟨by first | omega | exact Nat.le_refl _⟩, by repeat (first | exact Drawn0.refl _ | apply Drawn0.step)⟩
 case rest =>
  clear HC3
  try clear c1
  try clear p2
  try clear c4
  try clear c4b0
  try clear c4b1
  obtain ⟨kq, x12_2, rfl, HA, HJ2, ⟨mc2, rfl⟩⟩ := hcut
  cases kq with
  | zero => exact absurd HA.out (by simp [fixed_Mul.j0])
  | succ kj2 =>
   have H := HA.out
   clear HA
   simp only [fixed_Mul.j0] at H
   by_cases c5 : x12_2 = true
   ·subst c5
    have H1 : (some (0, true)) = some (r1, r2) := by rw [if_pos rfl] at H; exact H
    clear H
    have H := H1
    clear H1
    simp only [Option.some.injEq, Prod.mk.injEq] at H
    obtain ⟨rfl, rfl⟩ := H
    go_wp2
    go_ret2
    exact ⟨by first | rfl | (simp; done) | (simp [*]; done), by repeat (first | exact Drawn0.refl _ | apply Drawn0.step)⟩
   ·replace c5 := Bool.eq_false_iff.mpr c5
    subst c5
    have H1 : (if a1 = 0 then (none) else (if (wrap64 (Int.tdiv (wrap64 (a0 * a1)) a1)) = a0 then (if a0 = (-1) then (if (wrap64 (a0 * a1)) = a1 then (some (0, false)) else (if a1 = (-1) then (if (wrap64 (a0 * a1)) = a0 then (some (0, false)) else (some (wrap64 (a0 * a1), true))) else (some (wrap64 (a0 * a1), true)))) else (if a1 = (-1) then (if (wrap64 (a0 * a1)) = a0 then (some (0, false)) else (some (wrap64 (a0 * a1), true))) else (some (wrap64 (a0 * a1), true)))) else (some (0, false)))) = some (r1, r2) := by rw [if_neg (show ¬ (false = true) by decide)] at H; exact H
    clear H
    have H := H1
    clear H1
    by_cases c6 : a1 = 0
    ·rw [if_pos c6] at H
     exact absurd H (by simp)
    ·rw [if_neg c6] at H
     have c6b0 : (a1 == 0) = false := beq_eq_false_iff_ne.mpr c6
     have c6b1 : (a1 != 0) = true := bne_iff_ne.mpr c6
     by_cases c7 : (wrap64 (Int.tdiv (wrap64 (a0 * a1)) a1)) = a0
     ·rw [if_pos c7] at H
      have c7b0 : ((wrap64 (Int.tdiv (wrap64 (a0 * a1)) a1)) == a0) = true := beq_iff_eq.mpr c7
      have c7b1 : ((wrap64 (Int.tdiv (wrap64 (a0 * a1)) a1)) != a0) = false := bne_eq_false_iff_eq.mpr c7
      clear c7
      by_cases c8 : a0 = (-1)
      ·rw [if_pos c8] at H
       have c8b0 : (a0 == (-1)) = true := beq_iff_eq.mpr c8
       have c8b1 : (a0 != (-1)) = false := bne_eq_false_iff_eq.mpr c8
       clear c8
       by_cases c9 : (wrap64 (a0 * a1)) = a1
       ·rw [if_pos c9] at H
        have c9b0 : ((wrap64 (a0 * a1)) == a1) = true := beq_iff_eq.mpr c9
        have c9b1 : ((wrap64 (a0 * a1)) != a1) = false := bne_eq_false_iff_eq.mpr c9
        clear c9
        simp only [Option.some.injEq, Prod.mk.injEq] at H
        obtain ⟨rfl, rfl⟩ := H
        go_wp2
        go_ret2
        exact ⟨by first | rfl | (simp; done) | (simp [*]; done), by repeat (first | exact Drawn0.refl _ | apply Drawn0.step)⟩
       ·rw [if_neg c9] at H
        have c9b0 : ((wrap64 (a0 * a1)) == a1) = false := beq_eq_false_iff_ne.mpr c9
        have c9b1 : ((wrap64 (a0 * a1)) != a1) = true := bne_iff_ne.mpr c9
        by_cases c10 : a1 = (-1)
        ·rw [if_pos c10] at H
         have c10b0 : (a1 == (-1)) = true := beq_iff_eq.mpr c10
         have c10b1 : (a1 != (-1)) = false := bne_eq_false_iff_eq.mpr c10
         clear c10
         by_cases c11 : (wrap64 (a0 * a1)) = a0
         ·rw [if_pos c11] at H
          have c11b0 : ((wrap64 (a0 * a1)) == a0) = true := beq_iff_eq.mpr c11
          have c11b1 : ((wrap64 (a0 * a1)) != a0) = false := bne_eq_false_iff_eq.mpr c11
          clear c11
          simp only [Option.some.injEq, Prod.mk.injEq] at H
          obtain ⟨rfl, rfl⟩ := H
          go_wp2
          go_ret2
          exact ⟨by first | rfl | (simp; done) | (simp [*]; done), by repeat (first | exact Drawn0.refl _ | apply Drawn0.step)⟩
         ·rw [if_neg c11] at H
          have c11b0 : ((wrap64 (a0 * a1)) == a0) = false := beq_eq_false_iff_ne.mpr c11
          have c11b1 : ((wrap64 (a0 * a1)) != a0) = true := bne_iff_ne.mpr c11
          simp only [Option.some.injEq, Prod.mk.injEq] at H
          obtain ⟨rfl, rfl⟩ := H
          go_wp2
          go_ret2
          exact ⟨by first | rfl | (simp; done) | (simp [*]; done), by repeat (first | exact Drawn0.refl _ | apply Drawn0.step)⟩
        ·rw [if_neg c10] at H
         have c10b0 : (a1 == (-1)) = false := beq_eq_false_iff_ne.mpr c10
         have c10b1 : (a1 != (-1)) = true := bne_iff_ne.mpr c10
         simp only [Option.some.injEq, Prod.mk.injEq] at H
         obtain ⟨rfl, rfl⟩ := H
         go_wp2
         go_ret2
         exact ⟨by first | rfl | (simp; done) | (simp [*]; done), by repeat (first | exact Drawn0.refl _ | apply Drawn0.step)⟩
      ·rw [if_neg c8] at H
       have c8b0 : (a0 == (-1)) = false := beq_eq_false_iff_ne.mpr c8
       have c8b1 : (a0 != (-1)) = true := bne_iff_ne.mpr c8
       by_cases c12 : a1 = (-1)
       ·rw [if_pos c12] at H
        have c12b0 : (a1 == (-1)) = true := beq_iff_eq.mpr c12
        have c12b1 : (a1 != (-1)) = false := bne_eq_false_iff_eq.mpr c12
        clear c12
        by_cases c13 : (wrap64 (a0 * a1)) = a0
        ·rw [if_pos c13] at H
         have c13b0 : ((wrap64 (a0 * a1)) == a0) = true := beq_iff_eq.mpr c13
         have c13b1 : ((wrap64 (a0 * a1)) != a0) = false := bne_eq_false_iff_eq.mpr c13
         clear c13
         simp only [Option.some.injEq, Prod.mk.injEq] at H
         obtain ⟨rfl, rfl⟩ := H
         go_wp2
         go_ret2
         exact ⟨by first | rfl | (simp; done) | (simp [*]; done), by repeat (first | exact Drawn0.refl _ | apply Drawn0.step)⟩
        ·rw [if_neg c13] at H
         have c13b0 : ((wrap64 (a0 * a1)) == a0) = false := beq_eq_false_iff_ne.mpr c13
         have c13b1 : ((wrap64 (a0 * a1)) != a0) = true := bne_iff_ne.mpr c13
         simp only [Option.some.injEq, Prod.mk.injEq] at H
         obtain ⟨rfl, rfl⟩ := H
         go_wp2
         go_ret2
         exact ⟨by first | rfl | (simp; done) | (simp [*]; done), by repeat (first | exact Drawn0.refl _ | apply Drawn0.step)⟩
       ·rw [if_neg c12] at H
        have c12b0 : (a1 == (-1)) = false := beq_eq_false_iff_ne.mpr c12
        have c12b1 : (a1 != (-1)) = true := bne_iff_ne.mpr c12
        simp only [Option.some.injEq, Prod.mk.injEq] at H
        obtain ⟨rfl, rfl⟩ := H
        go_wp2
        go_ret2
        exact ⟨by first | rfl | (simp; done) | (simp [*]; done), by repeat (first | exact Drawn0.refl _ | apply Drawn0.step)⟩
     ·rw [if_neg c7] at H
      have c7b0 : ((wrap64 (Int.tdiv (wrap64 (a0 * a1)) a1)) == a0) = false := beq_eq_false_iff_ne.mpr c7
      have c7b1 : ((wrap64 (Int.tdiv (wrap64 (a0 * a1)) a1)) != a0) = true := bne_iff_ne.mpr c7
      simp only [Option.some.injEq, Prod.mk.injEq] at H
      obtain ⟨rfl, rfl⟩ := H
      go_wp2
      go_ret2
      exact ⟨by first | rfl | (simp; done) | (simp [*]; done), by repeat (first | exact Drawn0.refl _ | apply Drawn0.step)⟩

/-! ### fixed_Notional: function 93 -/
def fixed_Notional.f (k : Nat) (a0 : Int) (a1 : Int) : Option (Int × Bool) := if a0 < 0 then (some (0, false)) else (if a1 < 0 then (some (0, false)) else ((fixed_Mul.f k a0 a1).bind fun bt205 => (some (bt205.1, bt205.2))))
theorem fixed_Notional.mono : ∀ a0 a1 k, LeO (fixed_Notional.f k a0 a1) (fixed_Notional.f (k + 1) a0 a1) := by
 intro a0 a1 k
 unfold fixed_Notional.f
 repeat' first
   | (with_reducible exact fixed_Mul.mono _ _ _)
   | (with_reducible exact LeO.refl _)
   | (with_reducible exact LeO.none _)
   | (with_reducible refine LeO.ite ?_ ?_)
   | (with_reducible refine LeO.bind ?_ (fun _ => ?_))
   | exact fixed_Mul.mono _ _ _
   | exact LeO.none _
   | refine LeO.ite ?_ ?_
   | refine LeO.bind ?_ (fun _ => ?_)
set_option maxHeartbeats 8000000 in
set_option maxRecDepth 100000 in
theorem fixed_Notional.calls (k : Nat) (a0 : Int) (a1 : Int) (r1 : Int) (r2 : Bool) (w : World) (h : fixed_Notional.f k a0 a1 = some (r1, r2)) :
  Calls Try.prog 93 #[.int .i64 a0, .int .i64 a1] w fun e w' => e = .returned (.tuple #[.int .i64 r1, .bool r2]) ∧ Drawn0 w w' := by
 have H : (if a0 < 0 then (some (0, false)) else (if a1 < 0 then (some (0, false)) else ((fixed_Mul.f k a0 a1).bind fun bt205 => (some (bt205.1, bt205.2))))) = some (r1, r2) := h
 clear h
 by_cases c3 : a0 < 0
 ·rw [if_pos c3] at H
  have c3b0 : decide (a0 < 0) = true := decide_eq_true c3
  clear c3
  simp only [Option.some.injEq, Prod.mk.injEq] at H
  obtain ⟨rfl, rfl⟩ := H
  go_enter Try.func93, Try.ntmps93
  go_wp2
  go_ret2
  exact ⟨by first | rfl | (simp; done) | (simp [*]; done), by repeat (first | exact Drawn0.refl _ | apply Drawn0.step)⟩
 ·rw [if_neg c3] at H
  have c3b0 : decide (a0 < 0) = false := decide_eq_false c3
  clear c3
  by_cases c4 : a1 < 0
  ·rw [if_pos c4] at H
   have c4b0 : decide (a1 < 0) = true := decide_eq_true c4
   clear c4
   simp only [Option.some.injEq, Prod.mk.injEq] at H
   obtain ⟨rfl, rfl⟩ := H
   go_enter Try.func93, Try.ntmps93
   go_wp2
   go_ret2
   exact ⟨by first | rfl | (simp; done) | (simp [*]; done), by repeat (first | exact Drawn0.refl _ | apply Drawn0.step)⟩
  ·rw [if_neg c4] at H
   have c4b0 : decide (a1 < 0) = false := decide_eq_false c4
   clear c4
   replace H := Option.bind_eq_some_iff.mp H
   obtain ⟨⟨t205, t206⟩, A50, H⟩ := H
   replace H : (some (t205, t206)) = some (r1, r2) := H
   have A5 := Aside0.mk A50
   clear A50
   simp only [Option.some.injEq, Prod.mk.injEq] at H
   obtain ⟨rfl, rfl⟩ := H
   go_enter Try.func93, Try.ntmps93
   go_wp2_with (first | ((with_reducible refine gate_callee (f := 115) rfl ?_); refine goesL_ (some 14) rfl rfl Try.func115 (by kernel_rfl) rfl #[.int .i64 a0, .int .i64 a1] rfl (by (try simp only [List.map_toArray, List.map_cons, List.map_nil]); first | done | rfl | (simp only [List.length_drop, List.length_take]; rfl)) ?_; (with_reducible refine (fixed_Mul.calls k a0 a1 t205 t206 _ A5.out).mono ?_); rintro e w' ⟨rfl, ⟨nd, rfl⟩⟩; refine ⟨_, rfl, ?_⟩))
   go_ret2
   exact ⟨by first | rfl | (simp; done) | (simp [*]; done), by repeat (first | exact Drawn0.refl _ | apply Drawn0.step)⟩

-- NOT PRINTED: function 57 (math_Float64frombits)

-- NOT PRINTED: function 130 (math_Float64bits)

/-! ### math_Abs: function 127 -/
def math_Abs.f (a0 : Nat) : Option (Nat) := some ((Go.bits .andNot .u64 (a0 : Int) 9223372036854775808).toNat)
set_option maxHeartbeats 8000000 in
set_option maxRecDepth 100000 in
theorem math_Abs.calls (a0 : Nat) (r : Nat) (w : World) (h : math_Abs.f a0 = some r) :
  Calls Try.prog 127 #[.float .f64 a0] w fun e w' => e = .returned (.float .f64 r) ∧ Drawn0 w w' := by
 have hx130 : ∀ (n_ : Nat) (w_ : World), (callFunc 130 #[.float .f64 n_]).run Try.prog w_ = .ok (.value (.int .u64 n_)) w_ := fun n_ w_ => (run_callFunc_extern (e := Extern.MathFloatBits.float64bits) Try.func130 (by kernel_rfl) (by kernel_rfl) (by kernel_rfl) (by kernel_rfl) _ w_).trans rfl
 have hx57 : ∀ (n_ : Int) (w_ : World), (callFunc 57 #[.int .u64 n_]).run Try.prog w_ = .ok (.value (.float .f64 n_.toNat)) w_ := fun n_ w_ => (run_callFunc_extern (e := Extern.MathFloatBits.float64frombits) Try.func57 (by kernel_rfl) (by kernel_rfl) (by kernel_rfl) (by kernel_rfl) _ w_).trans rfl
 have H : (some ((Go.bits .andNot .u64 (a0 : Int) 9223372036854775808).toNat)) = some r := h
 clear h
 obtain rfl := Option.some.inj H
 go_enter Try.func127, Try.ntmps127
 go_wp2
 go_ret
 exact ⟨by first | rfl | (simp; done) | (simp [*]; done), by repeat (first | exact Drawn0.refl _ | apply Drawn0.step)⟩

/-! ### math_IsInf: function 119 -/
def math_IsInf.f (a0 : Nat) (a1 : Int) : Option (Bool) := if a1 = 0 then ((math_Abs.f a0).bind fun t207 => (some (FloatKind.f64.format.order t207 9218868437227405311 == some .gt))) else (if a1 < 0 then (none) else (some (FloatKind.f64.format.order a0 9218868437227405311 == some .gt)))
set_option maxHeartbeats 8000000 in
set_option maxRecDepth 100000 in
theorem math_IsInf.calls (a0 : Nat) (a1 : Int) (r : Bool) (w : World) (h : math_IsInf.f a0 a1 = some r) :
  Calls Try.prog 119 #[.float .f64 a0, .int .i64 a1] w fun e w' => e = .returned (.bool r) ∧ Drawn0 w w' := by
 have H : (if a1 = 0 then ((math_Abs.f a0).bind fun t207 => (some (FloatKind.f64.format.order t207 9218868437227405311 == some .gt))) else (if a1 < 0 then (none) else (some (FloatKind.f64.format.order a0 9218868437227405311 == some .gt)))) = some r := h
 clear h
 by_cases c3 : a1 = 0
 ·rw [if_pos c3] at H
  have c3b0 : (a1 == 0) = true := beq_iff_eq.mpr c3
  have c3b1 : (a1 != 0) = false := bne_eq_false_iff_eq.mpr c3
  clear c3
  replace H := Option.bind_eq_some_iff.mp H
  obtain ⟨t207, A40, H⟩ := H
  replace H : (some (FloatKind.f64.format.order t207 9218868437227405311 == some .gt)) = some r := H
  have A4 := Aside0.mk A40
  clear A40
  obtain rfl := Option.some.inj H
  go_enter Try.func119, Try.ntmps119
  go_wp2_with (first | ((with_reducible refine gate_callee (f := 127) rfl ?_); refine goesL_ (some 8) rfl rfl Try.func127 (by kernel_rfl) rfl #[.float .f64 a0] rfl (by (try simp only [List.map_toArray, List.map_cons, List.map_nil]); first | done | rfl | (simp only [List.length_drop, List.length_take]; rfl)) ?_; (with_reducible refine (math_Abs.calls a0 t207 _ A4.out).mono ?_); rintro e w' ⟨rfl, ⟨nd, rfl⟩⟩; refine ⟨_, rfl, ?_⟩))
  go_ret
  exact ⟨by first | rfl | (simp; done) | (simp [*]; done), by repeat (first | exact Drawn0.refl _ | apply Drawn0.step)⟩
 ·rw [if_neg c3] at H
  have c3b0 : (a1 == 0) = false := beq_eq_false_iff_ne.mpr c3
  have c3b1 : (a1 != 0) = true := bne_iff_ne.mpr c3
  by_cases c5 : a1 < 0
  ·rw [if_pos c5] at H
   exact absurd H (by simp)
  ·rw [if_neg c5] at H
   have c5b0 : decide (a1 < 0) = false := decide_eq_false c5
   clear c5
   obtain rfl := Option.some.inj H
   go_enter Try.func119, Try.ntmps119
   go_wp2
   go_ret
   exact ⟨by first | rfl | (simp; done) | (simp [*]; done), by repeat (first | exact Drawn0.refl _ | apply Drawn0.step)⟩

-- NOT PRINTED: function 128 (math_archFloor)

-- NOT PRINTED: function 134 (math_archTrunc)

/-! ### math_Copysign: function 133 -/
def math_Copysign.f (a0 : Nat) (a1 : Nat) : Option (Nat) := some ((Go.bits .or .u64 (Go.bits .andNot .u64 (a0 : Int) 9223372036854775808) (Go.bits .and .u64 (a1 : Int) 9223372036854775808)).toNat)
set_option maxHeartbeats 8000000 in
set_option maxRecDepth 100000 in
theorem math_Copysign.calls (a0 : Nat) (a1 : Nat) (r : Nat) (w : World) (h : math_Copysign.f a0 a1 = some r) :
  Calls Try.prog 133 #[.float .f64 a0, .float .f64 a1] w fun e w' => e = .returned (.float .f64 r) ∧ Drawn0 w w' := by
 have hx130 : ∀ (n_ : Nat) (w_ : World), (callFunc 130 #[.float .f64 n_]).run Try.prog w_ = .ok (.value (.int .u64 n_)) w_ := fun n_ w_ => (run_callFunc_extern (e := Extern.MathFloatBits.float64bits) Try.func130 (by kernel_rfl) (by kernel_rfl) (by kernel_rfl) (by kernel_rfl) _ w_).trans rfl
 have hx57 : ∀ (n_ : Int) (w_ : World), (callFunc 57 #[.int .u64 n_]).run Try.prog w_ = .ok (.value (.float .f64 n_.toNat)) w_ := fun n_ w_ => (run_callFunc_extern (e := Extern.MathFloatBits.float64frombits) Try.func57 (by kernel_rfl) (by kernel_rfl) (by kernel_rfl) (by kernel_rfl) _ w_).trans rfl
 have H : (some ((Go.bits .or .u64 (Go.bits .andNot .u64 (a0 : Int) 9223372036854775808) (Go.bits .and .u64 (a1 : Int) 9223372036854775808)).toNat)) = some r := h
 clear h
 obtain rfl := Option.some.inj H
 go_enter Try.func133, Try.ntmps133
 go_wp2
 go_ret
 exact ⟨by first | rfl | (simp; done) | (simp [*]; done), by repeat (first | exact Drawn0.refl _ | apply Drawn0.step)⟩

/-! ### math_trunc: function 135 -/
def math_trunc.f (a0 : Nat) : Option (Nat) := (math_Abs.f a0).bind fun t208 => (if (FloatKind.f64.format.order t208 4607182418800017408 == some .lt) = true then ((math_Copysign.f 0 a0).bind fun t209 => (some t209)) else (if (IntKind.u64.wrap ((Go.bits .and .u64 ((a0 : Int) / 4503599627370496) 2047) - 1023)) < 52 then (if 0 ≤ (IntKind.u64.wrap (52 - (IntKind.u64.wrap ((Go.bits .and .u64 ((a0 : Int) / 4503599627370496) 2047) - 1023)))) then (some ((Go.bits .andNot .u64 (a0 : Int) (IntKind.u64.wrap ((shl .u64 1 (IntKind.u64.wrap (52 - (IntKind.u64.wrap ((Go.bits .and .u64 ((a0 : Int) / 4503599627370496) 2047) - 1023))))) - 1))).toNat)) else (none)) else (some ((a0 : Int).toNat))))
set_option maxHeartbeats 8000000 in
set_option maxRecDepth 100000 in
theorem math_trunc.calls (a0 : Nat) (r : Nat) (w : World) (h : math_trunc.f a0 = some r) :
  Calls Try.prog 135 #[.float .f64 a0] w fun e w' => e = .returned (.float .f64 r) ∧ Drawn0 w w' := by
 have hx130 : ∀ (n_ : Nat) (w_ : World), (callFunc 130 #[.float .f64 n_]).run Try.prog w_ = .ok (.value (.int .u64 n_)) w_ := fun n_ w_ => (run_callFunc_extern (e := Extern.MathFloatBits.float64bits) Try.func130 (by kernel_rfl) (by kernel_rfl) (by kernel_rfl) (by kernel_rfl) _ w_).trans rfl
 have hx57 : ∀ (n_ : Int) (w_ : World), (callFunc 57 #[.int .u64 n_]).run Try.prog w_ = .ok (.value (.float .f64 n_.toNat)) w_ := fun n_ w_ => (run_callFunc_extern (e := Extern.MathFloatBits.float64frombits) Try.func57 (by kernel_rfl) (by kernel_rfl) (by kernel_rfl) (by kernel_rfl) _ w_).trans rfl
 have H : ((math_Abs.f a0).bind fun t208 => (if (FloatKind.f64.format.order t208 4607182418800017408 == some .lt) = true then ((math_Copysign.f 0 a0).bind fun t209 => (some t209)) else (if (IntKind.u64.wrap ((Go.bits .and .u64 ((a0 : Int) / 4503599627370496) 2047) - 1023)) < 52 then (if 0 ≤ (IntKind.u64.wrap (52 - (IntKind.u64.wrap ((Go.bits .and .u64 ((a0 : Int) / 4503599627370496) 2047) - 1023)))) then (some ((Go.bits .andNot .u64 (a0 : Int) (IntKind.u64.wrap ((shl .u64 1 (IntKind.u64.wrap (52 - (IntKind.u64.wrap ((Go.bits .and .u64 ((a0 : Int) / 4503599627370496) 2047) - 1023))))) - 1))).toNat)) else (none)) else (some ((a0 : Int).toNat))))) = some r := h
 clear h
 replace H := Option.bind_eq_some_iff.mp H
 obtain ⟨t208, A20, H⟩ := H
 replace H : (if (FloatKind.f64.format.order t208 4607182418800017408 == some .lt) = true then ((math_Copysign.f 0 a0).bind fun t209 => (some t209)) else (if (IntKind.u64.wrap ((Go.bits .and .u64 ((a0 : Int) / 4503599627370496) 2047) - 1023)) < 52 then (if 0 ≤ (IntKind.u64.wrap (52 - (IntKind.u64.wrap ((Go.bits .and .u64 ((a0 : Int) / 4503599627370496) 2047) - 1023)))) then (some ((Go.bits .andNot .u64 (a0 : Int) (IntKind.u64.wrap ((shl .u64 1 (IntKind.u64.wrap (52 - (IntKind.u64.wrap ((Go.bits .and .u64 ((a0 : Int) / 4503599627370496) 2047) - 1023))))) - 1))).toNat)) else (none)) else (some ((a0 : Int).toNat)))) = some r := H
 have A2 := Aside0.mk A20
 clear A20
 by_cases c3 : (FloatKind.f64.format.order t208 4607182418800017408 == some .lt) = true
 ·rw [if_pos c3] at H
  have c3b0 : (FloatKind.f64.format.order t208 4607182418800017408 == some .lt) = true := c3
  (try (have c3b1 : decide (FloatKind.f64.format.order t208 4607182418800017408 = some .lt) = true := by simpa using c3))
  (try (have c3b2 : (FloatKind.f64.format.order t208 4607182418800017408 == some .lt) = true := by simpa using c3))
  clear c3
  replace H := Option.bind_eq_some_iff.mp H
  obtain ⟨t209, A40, H⟩ := H
  replace H : (some t209) = some r := H
  have A4 := Aside0.mk A40
  clear A40
  obtain rfl := Option.some.inj H
  go_enter Try.func135, Try.ntmps135
  go_wp2_with (first | ((with_reducible refine gate_callee (f := 127) rfl ?_); refine goesL_ (some 6) rfl rfl Try.func127 (by kernel_rfl) rfl #[.float .f64 a0] rfl (by (try simp only [List.map_toArray, List.map_cons, List.map_nil]); first | done | rfl | (simp only [List.length_drop, List.length_take]; rfl)) ?_; (with_reducible refine (math_Abs.calls a0 t208 _ A2.out).mono ?_); rintro e w' ⟨rfl, ⟨nd, rfl⟩⟩; refine ⟨_, rfl, ?_⟩) | ((with_reducible refine gate_callee (f := 133) rfl ?_); refine goesL_ (some 9) rfl rfl Try.func133 (by kernel_rfl) rfl #[.float .f64 0, .float .f64 a0] rfl (by (try simp only [List.map_toArray, List.map_cons, List.map_nil]); first | done | rfl | (simp only [List.length_drop, List.length_take]; rfl)) ?_; (with_reducible refine (math_Copysign.calls 0 a0 t209 _ A4.out).mono ?_); rintro e w' ⟨rfl, ⟨nd, rfl⟩⟩; refine ⟨_, rfl, ?_⟩))
  go_ret
  exact ⟨by first | rfl | (simp; done) | (simp [*]; done), by repeat (first | exact Drawn0.refl _ | apply Drawn0.step)⟩
 ·rw [if_neg c3] at H
  have c3b0 : (FloatKind.f64.format.order t208 4607182418800017408 == some .lt) = false := by simpa using c3
  (try (have c3b1 : decide (FloatKind.f64.format.order t208 4607182418800017408 = some .lt) = false := by simpa using c3))
  (try (have c3b2 : (FloatKind.f64.format.order t208 4607182418800017408 == some .lt) = false := by simpa using c3))
  (try (have c3b3 : ¬ (FloatKind.f64.format.order t208 4607182418800017408 = some .lt) := by simpa using c3))
  clear c3
  by_cases c5 : (IntKind.u64.wrap ((Go.bits .and .u64 ((a0 : Int) / 4503599627370496) 2047) - 1023)) < 52
  ·rw [if_pos c5] at H
   have c5b0 : decide ((IntKind.u64.wrap ((Go.bits .and .u64 ((a0 : Int) / 4503599627370496) 2047) - 1023)) < 52) = true := decide_eq_true c5
   clear c5
   obtain ⟨ji6, hji6⟩ : ∃ j_ : Int, (IntKind.u64.wrap (52 - (IntKind.u64.wrap ((Go.bits .and .u64 ((a0 : Int) / 4503599627370496) 2047) - 1023)))) = j_ := ⟨_, rfl⟩
   replace H : (if 0 ≤ (ji6) then (some ((Go.bits .andNot .u64 (a0 : Int) (IntKind.u64.wrap ((shl .u64 1 (ji6)) - 1))).toNat)) else (none)) = some r := by first | (rw [hji6] at H; exact H) | (simp only [hji6] at H ⊢; exact H)
   (try rw [hji6] at A2)
   by_cases c7 : 0 ≤ (ji6)
   ·rw [if_pos c7] at H
    have c7b0 := eq_true c7
    have c7b1 : decide (0 ≤ (ji6)) = true := decide_eq_true c7
    clear c7
    obtain ⟨ji8, hji8⟩ : ∃ j_ : Int, (shl .u64 1 (ji6)) = j_ := ⟨_, rfl⟩
    replace H : (some ((Go.bits .andNot .u64 (a0 : Int) (IntKind.u64.wrap ((ji8) - 1))).toNat)) = some r := by first | (rw [hji8] at H; exact H) | (simp only [hji8] at H ⊢; exact H)
    (try rw [hji8] at A2)
    have hji8_ : (IntKind.u64.wrap (1 * 2 ^ min (ji6).toNat 64)) = ji8 := hji8
    have hji8z : (ji6) ≤ 64 → (IntKind.u64.wrap (1 * 2 ^ (ji6).toNat)) = ji8 := shl_small hji8
    have hji8u : (IntKind.u64.wrap (2 ^ min (ji6).toNat 64)) = ji8 := by have h_ := hji8_; rw [Int.one_mul] at h_; exact h_
    have hji8v : (ji6) ≤ 64 → (IntKind.u64.wrap (2 ^ (ji6).toNat)) = ji8 := fun hle_ => by have h_ := hji8z hle_; rw [Int.one_mul] at h_; exact h_
    obtain rfl := Option.some.inj H
    go_enter Try.func135, Try.ntmps135
    go_wp2_with (first | ((with_reducible refine gate_callee (f := 127) rfl ?_); refine goesL_ (some 6) rfl rfl Try.func127 (by kernel_rfl) rfl #[.float .f64 a0] rfl (by (try simp only [List.map_toArray, List.map_cons, List.map_nil]); first | done | rfl | (simp only [List.length_drop, List.length_take]; rfl)) ?_; (with_reducible refine (math_Abs.calls a0 t208 _ A2.out).mono ?_); rintro e w' ⟨rfl, ⟨nd, rfl⟩⟩; refine ⟨_, rfl, ?_⟩))
    go_ret
    exact ⟨by first | rfl | (simp; done) | (simp only [← hji6, ← hji8] <;> (first | rfl | simp)) | (simp [*]; done), by repeat (first | exact Drawn0.refl _ | apply Drawn0.step)⟩
   ·rw [if_neg c7] at H
    exact absurd H (by simp)
  ·rw [if_neg c5] at H
   have c5b0 : decide ((IntKind.u64.wrap ((Go.bits .and .u64 ((a0 : Int) / 4503599627370496) 2047) - 1023)) < 52) = false := decide_eq_false c5
   clear c5
   obtain rfl := Option.some.inj H
   go_enter Try.func135, Try.ntmps135
   go_wp2_with (first | ((with_reducible refine gate_callee (f := 127) rfl ?_); refine goesL_ (some 6) rfl rfl Try.func127 (by kernel_rfl) rfl #[.float .f64 a0] rfl (by (try simp only [List.map_toArray, List.map_cons, List.map_nil]); first | done | rfl | (simp only [List.length_drop, List.length_take]; rfl)) ?_; (with_reducible refine (math_Abs.calls a0 t208 _ A2.out).mono ?_); rintro e w' ⟨rfl, ⟨nd, rfl⟩⟩; refine ⟨_, rfl, ?_⟩))
   go_ret
   exact ⟨by first | rfl | (simp; done) | (simp [*]; done), by repeat (first | exact Drawn0.refl _ | apply Drawn0.step)⟩

-- NOT PRINTED: function 132 (math_Trunc)

-- NOT PRINTED: function 131 (math_Modf)

-- NOT PRINTED: function 129 (math_floor)

/-! ### math_Floor: function 120 -/
def math_Floor.f (a0 : Nat) : Option (Nat) := if notNan a0 = true then (some (flr a0)) else (none)
set_option maxHeartbeats 8000000 in
set_option maxRecDepth 100000 in
theorem math_Floor.calls (a0 : Nat) (r : Nat) (w : World) (h : math_Floor.f a0 = some r) :
  Calls Try.prog 120 #[.float .f64 a0] w fun e w' => e = .returned (.float .f64 r) ∧ Drawn0 w w' := by
 have hx128 : ∀ (n_ : Nat) (w_ : World), notNan n_ = true → (callFunc 128 #[.float .f64 n_]).run Try.prog w_ = .ok (.value (.float .f64 (flr n_))) w_ := fun n_ w_ hn_ => (run_callFunc_extern (e := Extern.MathFloor.toIntegral "math.archFloor" .down) Try.func128 (by kernel_rfl) (by kernel_rfl) (by kernel_rfl) (by kernel_rfl) _ w_).trans (by rw [run_flr n_ w_ hn_]; rfl)
 have H : (if notNan a0 = true then (some (flr a0)) else (none)) = some r := h
 clear h
 by_cases c2 : notNan a0 = true
 ·rw [if_pos c2] at H
  have c2b0 : notNan a0 = true := c2
  clear c2
  obtain rfl := Option.some.inj H
  go_enter Try.func120, Try.ntmps120
  go_wp2
  go_ret
  exact ⟨by first | rfl | (simp; done) | (simp [*]; done), by repeat (first | exact Drawn0.refl _ | apply Drawn0.step)⟩
 ·rw [if_neg c2] at H
  exact absurd H (by simp)

/-! ### band_far: function 98 -/
def band_far.f (a0 : Int) (a1 : Nat) : Option (Int) := if (FloatKind.f64.format.mul (FloatKind.f64.nearest a0) a1).isSome = true then ((math_IsInf.f ((FloatKind.f64.format.mul (FloatKind.f64.nearest a0) a1).getD 0) 1).bind fun t212 => (if t212 = true then (some 1099511627776) else (if (FloatKind.f64.format.order ((FloatKind.f64.format.mul (FloatKind.f64.nearest a0) a1).getD 0) 4787326403894837248 == some .gt || FloatKind.f64.format.order ((FloatKind.f64.format.mul (FloatKind.f64.nearest a0) a1).getD 0) 4787326403894837248 == some .eq) = true then (some 1099511627776) else ((math_Floor.f ((FloatKind.f64.format.mul (FloatKind.f64.nearest a0) a1).getD 0)).bind fun t213 => (if (floatToIntVal .f64 t213 .i64).isSome = true then (some ((floatToIntVal .f64 t213 .i64).getD 0)) else (none)))))) else (none)
set_option maxHeartbeats 8000000 in
set_option maxRecDepth 100000 in
theorem band_far.calls (a0 : Int) (a1 : Nat) (r : Int) (w : World) (h : band_far.f a0 a1 = some r) :
  Calls Try.prog 98 #[.int .i64 a0, .float .f64 a1] w fun e w' => e = .returned (.int .i64 r) ∧ Drawn0 w w' := by
 have hcv2_84 : ∀ (n_ : Int) (w_ : World), (convert 2 84 (.int .i64 n_)).run Try.prog w_ = .ok (.float .f64 (FloatKind.f64.nearest n_)) w_ := fun n_ w_ => by simp [convert, run_underlying Try.underlying2, run_underlying Try.underlying84, Conv.intToFloat]
 have hmul : ∀ (t_ : TypeId) (x_ y_ : Nat) (w_ : World), (FloatKind.f64.format.mul x_ y_).isSome = true → (binOp .mul t_ (.float .f64 x_) (.float .f64 y_)).run Try.prog w_ = .ok (.float .f64 ((FloatKind.f64.format.mul x_ y_).getD 0)) w_ := fun t_ x_ y_ w_ hn_ => run_fmul hn_
 have hcv84_2 : ∀ (n_ : Nat) (w_ : World), (floatToIntVal .f64 n_ .i64).isSome = true → (convert 84 2 (.float .f64 n_)).run Try.prog w_ = .ok (.int .i64 ((floatToIntVal .f64 n_ .i64).getD 0)) w_ := fun n_ w_ hn_ => run_cfi (by rw [Try.underlying84]; rfl) Try.underlying2 hn_
 have H : (if (FloatKind.f64.format.mul (FloatKind.f64.nearest a0) a1).isSome = true then ((math_IsInf.f ((FloatKind.f64.format.mul (FloatKind.f64.nearest a0) a1).getD 0) 1).bind fun t212 => (if t212 = true then (some 1099511627776) else (if (FloatKind.f64.format.order ((FloatKind.f64.format.mul (FloatKind.f64.nearest a0) a1).getD 0) 4787326403894837248 == some .gt || FloatKind.f64.format.order ((FloatKind.f64.format.mul (FloatKind.f64.nearest a0) a1).getD 0) 4787326403894837248 == some .eq) = true then (some 1099511627776) else ((math_Floor.f ((FloatKind.f64.format.mul (FloatKind.f64.nearest a0) a1).getD 0)).bind fun t213 => (if (floatToIntVal .f64 t213 .i64).isSome = true then (some ((floatToIntVal .f64 t213 .i64).getD 0)) else (none)))))) else (none)) = some r := h
 clear h
 by_cases c3 : (FloatKind.f64.format.mul (FloatKind.f64.nearest a0) a1).isSome = true
 ·rw [if_pos c3] at H
  have c3b0 : (FloatKind.f64.format.mul (FloatKind.f64.nearest a0) a1).isSome = true := c3
  clear c3
  replace H := Option.bind_eq_some_iff.mp H
  obtain ⟨t212, A40, H⟩ := H
  replace H : (if t212 = true then (some 1099511627776) else (if (FloatKind.f64.format.order ((FloatKind.f64.format.mul (FloatKind.f64.nearest a0) a1).getD 0) 4787326403894837248 == some .gt || FloatKind.f64.format.order ((FloatKind.f64.format.mul (FloatKind.f64.nearest a0) a1).getD 0) 4787326403894837248 == some .eq) = true then (some 1099511627776) else ((math_Floor.f ((FloatKind.f64.format.mul (FloatKind.f64.nearest a0) a1).getD 0)).bind fun t213 => (if (floatToIntVal .f64 t213 .i64).isSome = true then (some ((floatToIntVal .f64 t213 .i64).getD 0)) else (none))))) = some r := H
  have A4 := Aside0.mk A40
  clear A40
  by_cases c5 : t212 = true
  ·subst c5
   have H1 : (some 1099511627776) = some r := by rw [if_pos rfl] at H; exact H
   clear H
   have H := H1
   clear H1
   obtain rfl := Option.some.inj H
   go_enter Try.func98, Try.ntmps98
   go_wp2_with (first | ((with_reducible refine gate_callee (f := 119) rfl ?_); refine goesL_ (some 11) rfl rfl Try.func119 (by kernel_rfl) rfl #[.float .f64 ((FloatKind.f64.format.mul (FloatKind.f64.nearest a0) a1).getD 0), .int .i64 1] rfl (by (try simp only [List.map_toArray, List.map_cons, List.map_nil]); first | done | rfl | (simp only [List.length_drop, List.length_take]; rfl)) ?_; (with_reducible refine (math_IsInf.calls ((FloatKind.f64.format.mul (FloatKind.f64.nearest a0) a1).getD 0) 1 true _ A4.out).mono ?_); rintro e w' ⟨rfl, ⟨nd, rfl⟩⟩; refine ⟨_, rfl, ?_⟩))
   go_ret
   exact ⟨by first | rfl | (simp; done) | (simp [*]; done), by repeat (first | exact Drawn0.refl _ | apply Drawn0.step)⟩
  ·replace c5 := Bool.eq_false_iff.mpr c5
   subst c5
   have H1 : (if (FloatKind.f64.format.order ((FloatKind.f64.format.mul (FloatKind.f64.nearest a0) a1).getD 0) 4787326403894837248 == some .gt || FloatKind.f64.format.order ((FloatKind.f64.format.mul (FloatKind.f64.nearest a0) a1).getD 0) 4787326403894837248 == some .eq) = true then (some 1099511627776) else ((math_Floor.f ((FloatKind.f64.format.mul (FloatKind.f64.nearest a0) a1).getD 0)).bind fun t213 => (if (floatToIntVal .f64 t213 .i64).isSome = true then (some ((floatToIntVal .f64 t213 .i64).getD 0)) else (none)))) = some r := by rw [if_neg (show ¬ (false = true) by decide)] at H; exact H
   clear H
   have H := H1
   clear H1
   by_cases c6 : (FloatKind.f64.format.order ((FloatKind.f64.format.mul (FloatKind.f64.nearest a0) a1).getD 0) 4787326403894837248 == some .gt || FloatKind.f64.format.order ((FloatKind.f64.format.mul (FloatKind.f64.nearest a0) a1).getD 0) 4787326403894837248 == some .eq) = true
   ·rw [if_pos c6] at H
    have c6b0 : (FloatKind.f64.format.order ((FloatKind.f64.format.mul (FloatKind.f64.nearest a0) a1).getD 0) 4787326403894837248 == some .gt || FloatKind.f64.format.order ((FloatKind.f64.format.mul (FloatKind.f64.nearest a0) a1).getD 0) 4787326403894837248 == some .eq) = true := c6
    (try (have c6b1 : decide (FloatKind.f64.format.order ((FloatKind.f64.format.mul (FloatKind.f64.nearest a0) a1).getD 0) 4787326403894837248 = some .gt || FloatKind.f64.format.order ((FloatKind.f64.format.mul (FloatKind.f64.nearest a0) a1).getD 0) 4787326403894837248 == some .eq) = true := by simpa using c6))
    (try (have c6b2 : (FloatKind.f64.format.order ((FloatKind.f64.format.mul (FloatKind.f64.nearest a0) a1).getD 0) 4787326403894837248 == some .gt || FloatKind.f64.format.order ((FloatKind.f64.format.mul (FloatKind.f64.nearest a0) a1).getD 0) 4787326403894837248 == some .eq) = true := by simpa using c6))
    clear c6
    obtain rfl := Option.some.inj H
    go_enter Try.func98, Try.ntmps98
    go_wp2_with (first | ((with_reducible refine gate_callee (f := 119) rfl ?_); refine goesL_ (some 11) rfl rfl Try.func119 (by kernel_rfl) rfl #[.float .f64 ((FloatKind.f64.format.mul (FloatKind.f64.nearest a0) a1).getD 0), .int .i64 1] rfl (by (try simp only [List.map_toArray, List.map_cons, List.map_nil]); first | done | rfl | (simp only [List.length_drop, List.length_take]; rfl)) ?_; (with_reducible refine (math_IsInf.calls ((FloatKind.f64.format.mul (FloatKind.f64.nearest a0) a1).getD 0) 1 false _ A4.out).mono ?_); rintro e w' ⟨rfl, ⟨nd, rfl⟩⟩; refine ⟨_, rfl, ?_⟩))
    go_ret
    exact ⟨by first | rfl | (simp; done) | (simp [*]; done), by repeat (first | exact Drawn0.refl _ | apply Drawn0.step)⟩
   ·rw [if_neg c6] at H
    have c6b0 : (FloatKind.f64.format.order ((FloatKind.f64.format.mul (FloatKind.f64.nearest a0) a1).getD 0) 4787326403894837248 == some .gt || FloatKind.f64.format.order ((FloatKind.f64.format.mul (FloatKind.f64.nearest a0) a1).getD 0) 4787326403894837248 == some .eq) = false := by simpa using c6
    (try (have c6b1 : decide (FloatKind.f64.format.order ((FloatKind.f64.format.mul (FloatKind.f64.nearest a0) a1).getD 0) 4787326403894837248 = some .gt || FloatKind.f64.format.order ((FloatKind.f64.format.mul (FloatKind.f64.nearest a0) a1).getD 0) 4787326403894837248 == some .eq) = false := by simpa using c6))
    (try (have c6b2 : (FloatKind.f64.format.order ((FloatKind.f64.format.mul (FloatKind.f64.nearest a0) a1).getD 0) 4787326403894837248 == some .gt || FloatKind.f64.format.order ((FloatKind.f64.format.mul (FloatKind.f64.nearest a0) a1).getD 0) 4787326403894837248 == some .eq) = false := by simpa using c6))
    (try (have c6b3 : ¬ (FloatKind.f64.format.order ((FloatKind.f64.format.mul (FloatKind.f64.nearest a0) a1).getD 0) 4787326403894837248 = some .gt || FloatKind.f64.format.order ((FloatKind.f64.format.mul (FloatKind.f64.nearest a0) a1).getD 0) 4787326403894837248 == some .eq) := by simpa using c6))
    clear c6
    replace H := Option.bind_eq_some_iff.mp H
    obtain ⟨t213, A70, H⟩ := H
    replace H : (if (floatToIntVal .f64 t213 .i64).isSome = true then (some ((floatToIntVal .f64 t213 .i64).getD 0)) else (none)) = some r := H
    have A7 := Aside0.mk A70
    clear A70
    by_cases c8 : (floatToIntVal .f64 t213 .i64).isSome = true
    ·rw [if_pos c8] at H
     have c8b0 : (floatToIntVal .f64 t213 .i64).isSome = true := c8
     clear c8
     obtain rfl := Option.some.inj H
     go_enter Try.func98, Try.ntmps98
     go_wp2_with (first | ((with_reducible refine gate_callee (f := 119) rfl ?_); refine goesL_ (some 11) rfl rfl Try.func119 (by kernel_rfl) rfl #[.float .f64 ((FloatKind.f64.format.mul (FloatKind.f64.nearest a0) a1).getD 0), .int .i64 1] rfl (by (try simp only [List.map_toArray, List.map_cons, List.map_nil]); first | done | rfl | (simp only [List.length_drop, List.length_take]; rfl)) ?_; (with_reducible refine (math_IsInf.calls ((FloatKind.f64.format.mul (FloatKind.f64.nearest a0) a1).getD 0) 1 false _ A4.out).mono ?_); rintro e w' ⟨rfl, ⟨nd, rfl⟩⟩; refine ⟨_, rfl, ?_⟩) | ((with_reducible refine gate_callee (f := 120) rfl ?_); refine goesL_ (some 17) rfl rfl Try.func120 (by kernel_rfl) rfl #[.float .f64 ((FloatKind.f64.format.mul (FloatKind.f64.nearest a0) a1).getD 0)] rfl (by (try simp only [List.map_toArray, List.map_cons, List.map_nil]); first | done | rfl | (simp only [List.length_drop, List.length_take]; rfl)) ?_; (with_reducible refine (math_Floor.calls ((FloatKind.f64.format.mul (FloatKind.f64.nearest a0) a1).getD 0) t213 _ A7.out).mono ?_); rintro e w' ⟨rfl, ⟨nd, rfl⟩⟩; refine ⟨_, rfl, ?_⟩))
     go_ret
     exact ⟨by first | rfl | (simp; done) | (simp [*]; done), by repeat (first | exact Drawn0.refl _ | apply Drawn0.step)⟩
    ·rw [if_neg c8] at H
     exact absurd H (by simp)
 ·rw [if_neg c3] at H
  exact absurd H (by simp)

/-! ### band_Collar: function 58 -/
def band_Collar.f (a0 : Int) (a1 : Nat) : Option (Int × Int × Bool) := (band_Right.f a1).bind fun t214 => (if t214 = true then (if a0 < 1 then (some (0, 0, false)) else (if a0 > 1099511627776 then (some (0, 0, false)) else ((band_far.f a0 a1).bind fun t215 => (some (mx (wrap64 (a0 - t215)) 1, mn (wrap64 (a0 + t215)) 1099511627776, true))))) else (some (0, 0, false)))
set_option maxHeartbeats 8000000 in
set_option maxRecDepth 100000 in
theorem band_Collar.calls (a0 : Int) (a1 : Nat) (r1 : Int) (r2 : Int) (r3 : Bool) (w : World) (h : band_Collar.f a0 a1 = some (r1, r2, r3)) :
  Calls Try.prog 58 #[.int .i64 a0, .float .f64 a1] w fun e w' => e = .returned (.tuple #[.int .i64 r1, .int .i64 r2, .bool r3]) ∧ Below w.heap.size w w' := by
 have HB := Aside0.mk (Below.refl w.heap.size w)
 have H : ((band_Right.f a1).bind fun t214 => (if t214 = true then (if a0 < 1 then (some (0, 0, false)) else (if a0 > 1099511627776 then (some (0, 0, false)) else ((band_far.f a0 a1).bind fun t215 => (some (mx (wrap64 (a0 - t215)) 1, mn (wrap64 (a0 + t215)) 1099511627776, true))))) else (some (0, 0, false)))) = some (r1, r2, r3) := h
 clear h
 replace H := Option.bind_eq_some_iff.mp H
 obtain ⟨t214, A30, H⟩ := H
 replace H : (if t214 = true then (if a0 < 1 then (some (0, 0, false)) else (if a0 > 1099511627776 then (some (0, 0, false)) else ((band_far.f a0 a1).bind fun t215 => (some (mx (wrap64 (a0 - t215)) 1, mn (wrap64 (a0 + t215)) 1099511627776, true))))) else (some (0, 0, false))) = some (r1, r2, r3) := H
 have A3 := Aside0.mk A30
 clear A30
 by_cases c4 : t214 = true
 ·subst c4
  have H1 : (if a0 < 1 then (some (0, 0, false)) else (if a0 > 1099511627776 then (some (0, 0, false)) else ((band_far.f a0 a1).bind fun t215 => (some (mx (wrap64 (a0 - t215)) 1, mn (wrap64 (a0 + t215)) 1099511627776, true))))) = some (r1, r2, r3) := by rw [if_pos rfl] at H; exact H
  clear H
  have H := H1
  clear H1
  by_cases c5 : a0 < 1
  ·rw [if_pos c5] at H
   have c5b0 : decide (a0 < 1) = true := decide_eq_true c5
   clear c5
   simp only [Option.some.injEq, Prod.mk.injEq] at H
   obtain ⟨rfl, rfl, rfl⟩ := H
   go_enter Try.func58, Try.ntmps58
   go_wp2_with (first | ((with_reducible refine gate_callee (f := 97) rfl ?_); refine goesL_ (some 9) rfl rfl Try.func97 (by kernel_rfl) rfl #[.float .f64 a1] rfl (by (try simp only [List.map_toArray, List.map_cons, List.map_nil]); first | done | rfl | (simp only [List.length_drop, List.length_take]; rfl)) ?_; (with_reducible refine (band_Right.calls a1 true _ A3.out).mono ?_); rintro e w' ⟨rfl, ⟨nd, rfl⟩⟩; refine ⟨_, rfl, ?_⟩))
   go_ret3
   exact ⟨by first | rfl | (simp [errW_none, errW_some] <;> rfl) | (simp [*, errW_none, errW_some] <;> rfl), by repeat (first | (with_reducible first | exact HB.out | apply below_alloc | apply pw_below_drewN | apply below_drew1) | exact HB.out)⟩
  ·rw [if_neg c5] at H
   have c5b0 : decide (a0 < 1) = false := decide_eq_false c5
   clear c5
   by_cases c6 : a0 > 1099511627776
   ·rw [if_pos c6] at H
    have c6b0 : decide (1099511627776 < a0) = true := decide_eq_true c6
    clear c6
    simp only [Option.some.injEq, Prod.mk.injEq] at H
    obtain ⟨rfl, rfl, rfl⟩ := H
    go_enter Try.func58, Try.ntmps58
    go_wp2_with (first | ((with_reducible refine gate_callee (f := 97) rfl ?_); refine goesL_ (some 9) rfl rfl Try.func97 (by kernel_rfl) rfl #[.float .f64 a1] rfl (by (try simp only [List.map_toArray, List.map_cons, List.map_nil]); first | done | rfl | (simp only [List.length_drop, List.length_take]; rfl)) ?_; (with_reducible refine (band_Right.calls a1 true _ A3.out).mono ?_); rintro e w' ⟨rfl, ⟨nd, rfl⟩⟩; refine ⟨_, rfl, ?_⟩))
    go_ret3
    exact ⟨by first | rfl | (simp [errW_none, errW_some] <;> rfl) | (simp [*, errW_none, errW_some] <;> rfl), by repeat (first | (with_reducible first | exact HB.out | apply below_alloc | apply pw_below_drewN | apply below_drew1) | exact HB.out)⟩
   ·rw [if_neg c6] at H
    have c6b0 : decide (1099511627776 < a0) = false := decide_eq_false c6
    clear c6
    replace H := Option.bind_eq_some_iff.mp H
    obtain ⟨t215, A70, H⟩ := H
    replace H : (some (mx (wrap64 (a0 - t215)) 1, mn (wrap64 (a0 + t215)) 1099511627776, true)) = some (r1, r2, r3) := H
    have A7 := Aside0.mk A70
    clear A70
    obtain ⟨ji8, hji8⟩ : ∃ j_ : Int, (mx (wrap64 (a0 - t215)) 1) = j_ := ⟨_, rfl⟩
    replace H : (some (ji8, mn (wrap64 (a0 + t215)) 1099511627776, true)) = some (r1, r2, r3) := by first | (rw [hji8] at H; exact H) | (simp only [hji8] at H ⊢; exact H)
    (try rw [hji8] at A3)
    (try rw [hji8] at A7)
    (try (have hji8l : 1 ≤ ji8 := by (rw [← hji8]; unfold mx; (repeat' split) <;> omega)))
    (try (have hji8m : 0 ≤ ji8 := by omega))
    have hji8_ : (if (wrap64 (a0 - t215)) < 1 then 1 else (wrap64 (a0 - t215))) = ji8 := hji8
    obtain ⟨ji9, hji9⟩ : ∃ j_ : Int, (mn (wrap64 (a0 + t215)) 1099511627776) = j_ := ⟨_, rfl⟩
    replace H : (some (ji8, ji9, true)) = some (r1, r2, r3) := by first | (rw [hji9] at H; exact H) | (simp only [hji9] at H ⊢; exact H)
    (try rw [hji9] at A3)
    (try rw [hji9] at A7)
    (try (have hji9h : ji9 ≤ 1099511627776 := by (rw [← hji9]; unfold mn; (repeat' split) <;> omega)))
    (try (have hji9g : ji9 ≤ 64 := by omega))
    have hji9_ : (if 1099511627776 < (wrap64 (a0 + t215)) then 1099511627776 else (wrap64 (a0 + t215))) = ji9 := hji9
    simp only [Option.some.injEq, Prod.mk.injEq] at H
    obtain ⟨rfl, rfl, rfl⟩ := H
    go_enter Try.func58, Try.ntmps58
    go_wp2_with (first | ((with_reducible refine gate_callee (f := 97) rfl ?_); refine goesL_ (some 9) rfl rfl Try.func97 (by kernel_rfl) rfl #[.float .f64 a1] rfl (by (try simp only [List.map_toArray, List.map_cons, List.map_nil]); first | done | rfl | (simp only [List.length_drop, List.length_take]; rfl)) ?_; (with_reducible refine (band_Right.calls a1 true _ A3.out).mono ?_); rintro e w' ⟨rfl, ⟨nd, rfl⟩⟩; refine ⟨_, rfl, ?_⟩) | ((with_reducible refine gate_callee (f := 98) rfl ?_); refine goesL_ (some 21) rfl rfl Try.func98 (by kernel_rfl) rfl #[.int .i64 a0, .float .f64 a1] rfl (by (try simp only [List.map_toArray, List.map_cons, List.map_nil]); first | done | rfl | (simp only [List.length_drop, List.length_take]; rfl)) ?_; (with_reducible refine (band_far.calls a0 a1 t215 _ A7.out).mono ?_); rintro e w' ⟨rfl, ⟨nd, rfl⟩⟩; refine ⟨_, rfl, ?_⟩))
    go_ret3
    exact ⟨by first | rfl | (simp [errW_none, errW_some] <;> rfl) | (simp only [← hji8, ← hji9]; first | rfl | (simp [errW_none, errW_some] <;> rfl)) | (simp [*, errW_none, errW_some] <;> rfl), by repeat (first | (with_reducible first | exact HB.out | apply below_alloc | apply pw_below_drewN | apply below_drew1) | exact HB.out)⟩
 ·replace c4 := Bool.eq_false_iff.mpr c4
  subst c4
  have H1 : (some (0, 0, false)) = some (r1, r2, r3) := by rw [if_neg (show ¬ (false = true) by decide)] at H; exact H
  clear H
  have H := H1
  clear H1
  simp only [Option.some.injEq, Prod.mk.injEq] at H
  obtain ⟨rfl, rfl, rfl⟩ := H
  go_enter Try.func58, Try.ntmps58
  go_wp2_with (first | ((with_reducible refine gate_callee (f := 97) rfl ?_); refine goesL_ (some 9) rfl rfl Try.func97 (by kernel_rfl) rfl #[.float .f64 a1] rfl (by (try simp only [List.map_toArray, List.map_cons, List.map_nil]); first | done | rfl | (simp only [List.length_drop, List.length_take]; rfl)) ?_; (with_reducible refine (band_Right.calls a1 false _ A3.out).mono ?_); rintro e w' ⟨rfl, ⟨nd, rfl⟩⟩; refine ⟨_, rfl, ?_⟩))
  go_ret3
  exact ⟨by first | rfl | (simp [errW_none, errW_some] <;> rfl) | (simp [*, errW_none, errW_some] <;> rfl), by repeat (first | (with_reducible first | exact HB.out | apply below_alloc | apply pw_below_drewN | apply below_drew1) | exact HB.out)⟩

/-! ### band_Within: function 94 -/
def band_Within.f (a0 : Int) (a1 : Int) (a2 : Nat) : Option (Bool) := (band_Collar.f a0 a2).bind fun bt216 => (if bt216.2.2 = true then (if bt216.1 ≤ a1 then (some (decide (a1 ≤ bt216.2.1))) else (some false)) else (some false))
set_option maxHeartbeats 8000000 in
set_option maxRecDepth 100000 in
theorem band_Within.calls (a0 : Int) (a1 : Int) (a2 : Nat) (r : Bool) (w : World) (h : band_Within.f a0 a1 a2 = some r) :
  Calls Try.prog 94 #[.int .i64 a0, .int .i64 a1, .float .f64 a2] w fun e w' => e = .returned (.bool r) ∧ Below w.heap.size w w' := by
 have HB := Aside0.mk (Below.refl w.heap.size w)
 have H : ((band_Collar.f a0 a2).bind fun bt216 => (if bt216.2.2 = true then (if bt216.1 ≤ a1 then (some (decide (a1 ≤ bt216.2.1))) else (some false)) else (some false))) = some r := h
 clear h
 replace H := Option.bind_eq_some_iff.mp H
 obtain ⟨⟨t216, t217, t218⟩, A40, H⟩ := H
 replace H : (if t218 = true then (if t216 ≤ a1 then (some (decide (a1 ≤ t217))) else (some false)) else (some false)) = some r := H
 have A4 := Aside0.mk A40
 clear A40
 by_cases c5 : t218 = true
 ·subst c5
  have H1 : (if t216 ≤ a1 then (some (decide (a1 ≤ t217))) else (some false)) = some r := by rw [if_pos rfl] at H; exact H
  clear H
  have H := H1
  clear H1
  by_cases c6 : t216 ≤ a1
  ·rw [if_pos c6] at H
   have c6b0 : decide (t216 ≤ a1) = true := decide_eq_true c6
   clear c6
   obtain rfl := Option.some.inj H
   go_enter Try.func94, Try.ntmps94
   go_wp2_with (first | ((with_reducible refine gate_callee (f := 58) rfl ?_); refine goesL_ (some 13) rfl rfl Try.func58 (by kernel_rfl) rfl #[.int .i64 a0, .float .f64 a2] rfl (by (try simp only [List.map_toArray, List.map_cons, List.map_nil]); first | done | rfl | (simp only [List.length_drop, List.length_take]; rfl)) ?_; (with_reducible refine (band_Collar.calls a0 a2 t216 t217 true _ A4.out).mono ?_); rintro e w7 ⟨rfl, hb⟩; refine ⟨_, rfl, ?_⟩; have n0_ := Aside0.mk (below_step (by repeat (first | (with_reducible first | exact HB.out | apply below_alloc | apply pw_below_drewN | apply below_drew1) | exact HB.out)) hb); clear HB; have HB := n0_; clear n0_; (try clear hb); (try clear hb2); (try clear hk); (try clear hi)))
   go_ret
   exact ⟨by first | rfl | (simp [errW_none, errW_some] <;> rfl) | (simp [*, errW_none, errW_some] <;> rfl), by repeat (first | (with_reducible first | exact HB.out | apply below_alloc | apply pw_below_drewN | apply below_drew1) | exact HB.out)⟩
  ·rw [if_neg c6] at H
   have c6b0 : decide (t216 ≤ a1) = false := decide_eq_false c6
   clear c6
   obtain rfl := Option.some.inj H
   go_enter Try.func94, Try.ntmps94
   go_wp2_with (first | ((with_reducible refine gate_callee (f := 58) rfl ?_); refine goesL_ (some 13) rfl rfl Try.func58 (by kernel_rfl) rfl #[.int .i64 a0, .float .f64 a2] rfl (by (try simp only [List.map_toArray, List.map_cons, List.map_nil]); first | done | rfl | (simp only [List.length_drop, List.length_take]; rfl)) ?_; (with_reducible refine (band_Collar.calls a0 a2 t216 t217 true _ A4.out).mono ?_); rintro e w8 ⟨rfl, hb⟩; refine ⟨_, rfl, ?_⟩; have n0_ := Aside0.mk (below_step (by repeat (first | (with_reducible first | exact HB.out | apply below_alloc | apply pw_below_drewN | apply below_drew1) | exact HB.out)) hb); clear HB; have HB := n0_; clear n0_; (try clear hb); (try clear hb2); (try clear hk); (try clear hi)))
   go_ret
   exact ⟨by first | rfl | (simp [errW_none, errW_some] <;> rfl) | (simp [*, errW_none, errW_some] <;> rfl), by repeat (first | (with_reducible first | exact HB.out | apply below_alloc | apply pw_below_drewN | apply below_drew1) | exact HB.out)⟩
 ·replace c5 := Bool.eq_false_iff.mpr c5
  subst c5
  have H1 : (some false) = some r := by rw [if_neg (show ¬ (false = true) by decide)] at H; exact H
  clear H
  have H := H1
  clear H1
  obtain rfl := Option.some.inj H
  go_enter Try.func94, Try.ntmps94
  go_wp2_with (first | ((with_reducible refine gate_callee (f := 58) rfl ?_); refine goesL_ (some 13) rfl rfl Try.func58 (by kernel_rfl) rfl #[.int .i64 a0, .float .f64 a2] rfl (by (try simp only [List.map_toArray, List.map_cons, List.map_nil]); first | done | rfl | (simp only [List.length_drop, List.length_take]; rfl)) ?_; (with_reducible refine (band_Collar.calls a0 a2 t216 t217 false _ A4.out).mono ?_); rintro e w9 ⟨rfl, hb⟩; refine ⟨_, rfl, ?_⟩; have n0_ := Aside0.mk (below_step (by repeat (first | (with_reducible first | exact HB.out | apply below_alloc | apply pw_below_drewN | apply below_drew1) | exact HB.out)) hb); clear HB; have HB := n0_; clear n0_; (try clear hb); (try clear hb2); (try clear hk); (try clear hi)))
  go_ret
  exact ⟨by first | rfl | (simp [errW_none, errW_some] <;> rfl) | (simp [*, errW_none, errW_some] <;> rfl), by repeat (first | (with_reducible first | exact HB.out | apply below_alloc | apply pw_below_drewN | apply below_drew1) | exact HB.out)⟩

end Go.Proofs.Ytgikjgekdeaneaa.QRulesPrices
