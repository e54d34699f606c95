/- Printed by wip/gen/myprint.py, a program of this session, for this claim: functions of the program as Lean functions, each with a proof that the Go code comes to its answers. -/
import Derived.Test.YtnodcekkbbmfnaaQBandWidensx0
namespace Go.Proofs.Ytnodcekkbbmfnaa.QBandWidens
open Go.RowKit Go.Proofs.YtnodcekkbbmfnaaW.PrintWords Go.Proofs.YtnodcekkbbmfnaaW.PrintLast Go.Proofs.YtnodcekkbbmfnaaW.PrintMore
attribute [local go_sem] max2_int min2_int max_two min_two max_three min_three max_four min_four   -- for this text's walks alone
set_option linter.unusedVariables false
set_option linter.unusedSimpArgs false

-- NOT PRINTED: function 33 (math_Float64frombits)

/-! ### math_IsNaN: function 66 -/
def math_IsNaN.f (a0 : Nat) : Option (Bool) := some (FloatKind.f64.format.order a0 a0 != some .eq)
set_option maxHeartbeats 8000000 in
set_option maxRecDepth 100000 in
theorem math_IsNaN.calls (a0 : Nat) (r : Bool) (w : World) (h : math_IsNaN.f a0 = some r) :
  Calls Try.prog 66 #[.float .f64 a0] w fun e w' => e = .returned (.bool r) ∧ Drawn0 w w' := by
 have H : (some (FloatKind.f64.format.order a0 a0 != some .eq)) = some r := h
 clear h
 obtain rfl := Option.some.inj H
 go_enter Try.func66, Try.ntmps66
 go_wp2
 go_ret
 exact ⟨by first | rfl | (simp; done) | (simp [*]; done), by repeat (first | exact Drawn0.refl _ | apply Drawn0.step)⟩

/-! ### band_Right: function 38 -/
def band_Right.f (a0 : Nat) : Option (Bool) := (math_IsNaN.f a0).bind fun t101 => (if t101 = true then (some false) else (some (FloatKind.f64.format.order a0 0 == some .gt || FloatKind.f64.format.order a0 0 == some .eq)))
set_option maxHeartbeats 8000000 in
set_option maxRecDepth 100000 in
theorem band_Right.calls (a0 : Nat) (r : Bool) (w : World) (h : band_Right.f a0 = some r) :
  Calls Try.prog 38 #[.float .f64 a0] w fun e w' => e = .returned (.bool r) ∧ Drawn0 w w' := by
 have H : ((math_IsNaN.f a0).bind fun t101 => (if t101 = true then (some false) else (some (FloatKind.f64.format.order a0 0 == some .gt || FloatKind.f64.format.order a0 0 == some .eq)))) = some r := h
 clear h
 replace H := Option.bind_eq_some_iff.mp H
 obtain ⟨t101, A20, H⟩ := H
 replace H : (if t101 = true then (some false) else (some (FloatKind.f64.format.order a0 0 == some .gt || FloatKind.f64.format.order a0 0 == some .eq))) = some r := H
 have A2 := Aside0.mk A20
 clear A20
 by_cases c3 : t101 = true
 ·subst c3
  have H1 : (some false) = some r := by rw [if_pos rfl] at H; exact H
  clear H
  have H := H1
  clear H1
  obtain rfl := Option.some.inj H
  go_enter Try.func38, Try.ntmps38
  go_wp2_with (first | ((with_reducible refine gate_callee (f := 66) rfl ?_); refine goesL_ (some 4) rfl rfl Try.func66 (by kernel_rfl) rfl #[.float .f64 a0] rfl (by (try simp only [List.map_toArray, List.map_cons, List.map_nil]); first | done | rfl | (simp only [List.length_drop, List.length_take]; rfl)) ?_; (with_reducible refine (math_IsNaN.calls a0 true _ A2.out).mono ?_); rintro e w' ⟨rfl, ⟨nd, rfl⟩⟩; refine ⟨_, rfl, ?_⟩))
  go_ret
  exact ⟨by first | rfl | (simp; done) | (simp [*]; done), by repeat (first | exact Drawn0.refl _ | apply Drawn0.step)⟩
 ·replace c3 := Bool.eq_false_iff.mpr c3
  subst c3
  have H1 : (some (FloatKind.f64.format.order a0 0 == some .gt || FloatKind.f64.format.order a0 0 == some .eq)) = some r := by rw [if_neg (show ¬ (false = true) by decide)] at H; exact H
  clear H
  have H := H1
  clear H1
  obtain rfl := Option.some.inj H
  go_enter Try.func38, Try.ntmps38
  go_wp2_with (first | ((with_reducible refine gate_callee (f := 66) rfl ?_); refine goesL_ (some 4) rfl rfl Try.func66 (by kernel_rfl) rfl #[.float .f64 a0] rfl (by (try simp only [List.map_toArray, List.map_cons, List.map_nil]); first | done | rfl | (simp only [List.length_drop, List.length_take]; rfl)) ?_; (with_reducible refine (math_IsNaN.calls a0 false _ A2.out).mono ?_); rintro e w' ⟨rfl, ⟨nd, rfl⟩⟩; refine ⟨_, rfl, ?_⟩))
  go_ret
  exact ⟨by first | rfl | (simp; done) | (simp [*]; done), by repeat (first | exact Drawn0.refl _ | apply Drawn0.step)⟩

-- NOT PRINTED: function 74 (math_Float64bits)

/-! ### math_Abs: function 77 -/
def math_Abs.f (a0 : Nat) : Option (Nat) := some ((Go.bits .andNot .u64 (a0 : Int) 9223372036854775808).toNat)
set_option maxHeartbeats 8000000 in
set_option maxRecDepth 100000 in
theorem math_Abs.calls (a0 : Nat) (r : Nat) (w : World) (h : math_Abs.f a0 = some r) :
  Calls Try.prog 77 #[.float .f64 a0] w fun e w' => e = .returned (.float .f64 r) ∧ Drawn0 w w' := by
 have hx74 : ∀ (n_ : Nat) (w_ : World), (callFunc 74 #[.float .f64 n_]).run Try.prog w_ = .ok (.value (.int .u64 n_)) w_ := fun n_ w_ => (run_callFunc_extern (e := Extern.MathFloatBits.float64bits) Try.func74 (by kernel_rfl) (by kernel_rfl) (by kernel_rfl) (by kernel_rfl) _ w_).trans rfl
 have hx33 : ∀ (n_ : Int) (w_ : World), (callFunc 33 #[.int .u64 n_]).run Try.prog w_ = .ok (.value (.float .f64 n_.toNat)) w_ := fun n_ w_ => (run_callFunc_extern (e := Extern.MathFloatBits.float64frombits) Try.func33 (by kernel_rfl) (by kernel_rfl) (by kernel_rfl) (by kernel_rfl) _ w_).trans rfl
 have H : (some ((Go.bits .andNot .u64 (a0 : Int) 9223372036854775808).toNat)) = some r := h
 clear h
 obtain rfl := Option.some.inj H
 go_enter Try.func77, Try.ntmps77
 go_wp2
 go_ret
 exact ⟨by first | rfl | (simp; done) | (simp [*]; done), by repeat (first | exact Drawn0.refl _ | apply Drawn0.step)⟩

/-! ### math_IsInf: function 72 -/
def math_IsInf.f (a0 : Nat) (a1 : Int) : Option (Bool) := if a1 = 0 then ((math_Abs.f a0).bind fun t102 => (some (FloatKind.f64.format.order t102 9218868437227405311 == some .gt))) else (if a1 < 0 then (none) else (some (FloatKind.f64.format.order a0 9218868437227405311 == some .gt)))
set_option maxHeartbeats 8000000 in
set_option maxRecDepth 100000 in
theorem math_IsInf.calls (a0 : Nat) (a1 : Int) (r : Bool) (w : World) (h : math_IsInf.f a0 a1 = some r) :
  Calls Try.prog 72 #[.float .f64 a0, .int .i64 a1] w fun e w' => e = .returned (.bool r) ∧ Drawn0 w w' := by
 have H : (if a1 = 0 then ((math_Abs.f a0).bind fun t102 => (some (FloatKind.f64.format.order t102 9218868437227405311 == some .gt))) else (if a1 < 0 then (none) else (some (FloatKind.f64.format.order a0 9218868437227405311 == some .gt)))) = some r := h
 clear h
 by_cases c3 : a1 = 0
 ·rw [if_pos c3] at H
  have c3b0 : (a1 == 0) = true := beq_iff_eq.mpr c3
  have c3b1 : (a1 != 0) = false := bne_eq_false_iff_eq.mpr c3
  clear c3
  replace H := Option.bind_eq_some_iff.mp H
  obtain ⟨t102, A40, H⟩ := H
  replace H : (some (FloatKind.f64.format.order t102 9218868437227405311 == some .gt)) = some r := H
  have A4 := Aside0.mk A40
  clear A40
  obtain rfl := Option.some.inj H
  go_enter Try.func72, Try.ntmps72
  go_wp2_with (first | ((with_reducible refine gate_callee (f := 77) rfl ?_); refine goesL_ (some 8) rfl rfl Try.func77 (by kernel_rfl) rfl #[.float .f64 a0] rfl (by (try simp only [List.map_toArray, List.map_cons, List.map_nil]); first | done | rfl | (simp only [List.length_drop, List.length_take]; rfl)) ?_; (with_reducible refine (math_Abs.calls a0 t102 _ A4.out).mono ?_); rintro e w' ⟨rfl, ⟨nd, rfl⟩⟩; refine ⟨_, rfl, ?_⟩))
  go_ret
  exact ⟨by first | rfl | (simp; done) | (simp [*]; done), by repeat (first | exact Drawn0.refl _ | apply Drawn0.step)⟩
 ·rw [if_neg c3] at H
  have c3b0 : (a1 == 0) = false := beq_eq_false_iff_ne.mpr c3
  have c3b1 : (a1 != 0) = true := bne_iff_ne.mpr c3
  by_cases c5 : a1 < 0
  ·rw [if_pos c5] at H
   exact absurd H (by simp)
  ·rw [if_neg c5] at H
   have c5b0 : decide (a1 < 0) = false := decide_eq_false c5
   clear c5
   obtain rfl := Option.some.inj H
   go_enter Try.func72, Try.ntmps72
   go_wp2
   go_ret
   exact ⟨by first | rfl | (simp; done) | (simp [*]; done), by repeat (first | exact Drawn0.refl _ | apply Drawn0.step)⟩

-- NOT PRINTED: function 78 (math_archFloor)

/-! ### math_Copysign: function 63 -/
def math_Copysign.f (a0 : Nat) (a1 : Nat) : Option (Nat) := some ((Go.bits .or .u64 (Go.bits .andNot .u64 (a0 : Int) 9223372036854775808) (Go.bits .and .u64 (a1 : Int) 9223372036854775808)).toNat)
set_option maxHeartbeats 8000000 in
set_option maxRecDepth 100000 in
theorem math_Copysign.calls (a0 : Nat) (a1 : Nat) (r : Nat) (w : World) (h : math_Copysign.f a0 a1 = some r) :
  Calls Try.prog 63 #[.float .f64 a0, .float .f64 a1] w fun e w' => e = .returned (.float .f64 r) ∧ Drawn0 w w' := by
 have hx74 : ∀ (n_ : Nat) (w_ : World), (callFunc 74 #[.float .f64 n_]).run Try.prog w_ = .ok (.value (.int .u64 n_)) w_ := fun n_ w_ => (run_callFunc_extern (e := Extern.MathFloatBits.float64bits) Try.func74 (by kernel_rfl) (by kernel_rfl) (by kernel_rfl) (by kernel_rfl) _ w_).trans rfl
 have hx33 : ∀ (n_ : Int) (w_ : World), (callFunc 33 #[.int .u64 n_]).run Try.prog w_ = .ok (.value (.float .f64 n_.toNat)) w_ := fun n_ w_ => (run_callFunc_extern (e := Extern.MathFloatBits.float64frombits) Try.func33 (by kernel_rfl) (by kernel_rfl) (by kernel_rfl) (by kernel_rfl) _ w_).trans rfl
 have H : (some ((Go.bits .or .u64 (Go.bits .andNot .u64 (a0 : Int) 9223372036854775808) (Go.bits .and .u64 (a1 : Int) 9223372036854775808)).toNat)) = some r := h
 clear h
 obtain rfl := Option.some.inj H
 go_enter Try.func63, Try.ntmps63
 go_wp2
 go_ret
 exact ⟨by first | rfl | (simp; done) | (simp [*]; done), by repeat (first | exact Drawn0.refl _ | apply Drawn0.step)⟩

-- NOT PRINTED: function 82 (math_archTrunc)

/-! ### math_trunc: function 83 -/
def math_trunc.f (a0 : Nat) : Option (Nat) := (math_Abs.f a0).bind fun t103 => (if (FloatKind.f64.format.order t103 4607182418800017408 == some .lt) = true then ((math_Copysign.f 0 a0).bind fun t104 => (some t104)) else (if (IntKind.u64.wrap ((Go.bits .and .u64 ((a0 : Int) / 4503599627370496) 2047) - 1023)) < 52 then (if 0 ≤ (IntKind.u64.wrap (52 - (IntKind.u64.wrap ((Go.bits .and .u64 ((a0 : Int) / 4503599627370496) 2047) - 1023)))) then (some ((Go.bits .andNot .u64 (a0 : Int) (IntKind.u64.wrap ((shl .u64 1 (IntKind.u64.wrap (52 - (IntKind.u64.wrap ((Go.bits .and .u64 ((a0 : Int) / 4503599627370496) 2047) - 1023))))) - 1))).toNat)) else (none)) else (some ((a0 : Int).toNat))))
set_option maxHeartbeats 8000000 in
set_option maxRecDepth 100000 in
theorem math_trunc.calls (a0 : Nat) (r : Nat) (w : World) (h : math_trunc.f a0 = some r) :
  Calls Try.prog 83 #[.float .f64 a0] w fun e w' => e = .returned (.float .f64 r) ∧ Drawn0 w w' := by
 have hx74 : ∀ (n_ : Nat) (w_ : World), (callFunc 74 #[.float .f64 n_]).run Try.prog w_ = .ok (.value (.int .u64 n_)) w_ := fun n_ w_ => (run_callFunc_extern (e := Extern.MathFloatBits.float64bits) Try.func74 (by kernel_rfl) (by kernel_rfl) (by kernel_rfl) (by kernel_rfl) _ w_).trans rfl
 have hx33 : ∀ (n_ : Int) (w_ : World), (callFunc 33 #[.int .u64 n_]).run Try.prog w_ = .ok (.value (.float .f64 n_.toNat)) w_ := fun n_ w_ => (run_callFunc_extern (e := Extern.MathFloatBits.float64frombits) Try.func33 (by kernel_rfl) (by kernel_rfl) (by kernel_rfl) (by kernel_rfl) _ w_).trans rfl
 have H : ((math_Abs.f a0).bind fun t103 => (if (FloatKind.f64.format.order t103 4607182418800017408 == some .lt) = true then ((math_Copysign.f 0 a0).bind fun t104 => (some t104)) else (if (IntKind.u64.wrap ((Go.bits .and .u64 ((a0 : Int) / 4503599627370496) 2047) - 1023)) < 52 then (if 0 ≤ (IntKind.u64.wrap (52 - (IntKind.u64.wrap ((Go.bits .and .u64 ((a0 : Int) / 4503599627370496) 2047) - 1023)))) then (some ((Go.bits .andNot .u64 (a0 : Int) (IntKind.u64.wrap ((shl .u64 1 (IntKind.u64.wrap (52 - (IntKind.u64.wrap ((Go.bits .and .u64 ((a0 : Int) / 4503599627370496) 2047) - 1023))))) - 1))).toNat)) else (none)) else (some ((a0 : Int).toNat))))) = some r := h
 clear h
 replace H := Option.bind_eq_some_iff.mp H
 obtain ⟨t103, A20, H⟩ := H
 replace H : (if (FloatKind.f64.format.order t103 4607182418800017408 == some .lt) = true then ((math_Copysign.f 0 a0).bind fun t104 => (some t104)) else (if (IntKind.u64.wrap ((Go.bits .and .u64 ((a0 : Int) / 4503599627370496) 2047) - 1023)) < 52 then (if 0 ≤ (IntKind.u64.wrap (52 - (IntKind.u64.wrap ((Go.bits .and .u64 ((a0 : Int) / 4503599627370496) 2047) - 1023)))) then (some ((Go.bits .andNot .u64 (a0 : Int) (IntKind.u64.wrap ((shl .u64 1 (IntKind.u64.wrap (52 - (IntKind.u64.wrap ((Go.bits .and .u64 ((a0 : Int) / 4503599627370496) 2047) - 1023))))) - 1))).toNat)) else (none)) else (some ((a0 : Int).toNat)))) = some r := H
 have A2 := Aside0.mk A20
 clear A20
 by_cases c3 : (FloatKind.f64.format.order t103 4607182418800017408 == some .lt) = true
 ·rw [if_pos c3] at H
  have c3b0 : (FloatKind.f64.format.order t103 4607182418800017408 == some .lt) = true := c3
  (try (have c3b1 : decide (FloatKind.f64.format.order t103 4607182418800017408 = some .lt) = true := by simpa using c3))
  (try (have c3b2 : (FloatKind.f64.format.order t103 4607182418800017408 == some .lt) = true := by simpa using c3))
  clear c3
  replace H := Option.bind_eq_some_iff.mp H
  obtain ⟨t104, A40, H⟩ := H
  replace H : (some t104) = some r := H
  have A4 := Aside0.mk A40
  clear A40
  obtain rfl := Option.some.inj H
  go_enter Try.func83, Try.ntmps83
  go_wp2_with (first | ((with_reducible refine gate_callee (f := 77) rfl ?_); refine goesL_ (some 6) rfl rfl Try.func77 (by kernel_rfl) rfl #[.float .f64 a0] rfl (by (try simp only [List.map_toArray, List.map_cons, List.map_nil]); first | done | rfl | (simp only [List.length_drop, List.length_take]; rfl)) ?_; (with_reducible refine (math_Abs.calls a0 t103 _ A2.out).mono ?_); rintro e w' ⟨rfl, ⟨nd, rfl⟩⟩; refine ⟨_, rfl, ?_⟩) | ((with_reducible refine gate_callee (f := 63) rfl ?_); refine goesL_ (some 9) rfl rfl Try.func63 (by kernel_rfl) rfl #[.float .f64 0, .float .f64 a0] rfl (by (try simp only [List.map_toArray, List.map_cons, List.map_nil]); first | done | rfl | (simp only [List.length_drop, List.length_take]; rfl)) ?_; (with_reducible refine (math_Copysign.calls 0 a0 t104 _ A4.out).mono ?_); rintro e w' ⟨rfl, ⟨nd, rfl⟩⟩; refine ⟨_, rfl, ?_⟩))
  go_ret
  exact ⟨by first | rfl | (simp; done) | (simp [*]; done), by repeat (first | exact Drawn0.refl _ | apply Drawn0.step)⟩
 ·rw [if_neg c3] at H
  have c3b0 : (FloatKind.f64.format.order t103 4607182418800017408 == some .lt) = false := by simpa using c3
  (try (have c3b1 : decide (FloatKind.f64.format.order t103 4607182418800017408 = some .lt) = false := by simpa using c3))
  (try (have c3b2 : (FloatKind.f64.format.order t103 4607182418800017408 == some .lt) = false := by simpa using c3))
  (try (have c3b3 : ¬ (FloatKind.f64.format.order t103 4607182418800017408 = some .lt) := by simpa using c3))
  clear c3
  by_cases c5 : (IntKind.u64.wrap ((Go.bits .and .u64 ((a0 : Int) / 4503599627370496) 2047) - 1023)) < 52
  ·rw [if_pos c5] at H
   have c5b0 : decide ((IntKind.u64.wrap ((Go.bits .and .u64 ((a0 : Int) / 4503599627370496) 2047) - 1023)) < 52) = true := decide_eq_true c5
   clear c5
   obtain ⟨ji6, hji6⟩ : ∃ j_ : Int, (IntKind.u64.wrap (52 - (IntKind.u64.wrap ((Go.bits .and .u64 ((a0 : Int) / 4503599627370496) 2047) - 1023)))) = j_ := ⟨_, rfl⟩
   replace H : (if 0 ≤ (ji6) then (some ((Go.bits .andNot .u64 (a0 : Int) (IntKind.u64.wrap ((shl .u64 1 (ji6)) - 1))).toNat)) else (none)) = some r := by first | (rw [hji6] at H; exact H) | (simp only [hji6] at H ⊢; exact H)
   (try rw [hji6] at A2)
   by_cases c7 : 0 ≤ (ji6)
   ·rw [if_pos c7] at H
    have c7b0 := eq_true c7
    have c7b1 : decide (0 ≤ (ji6)) = true := decide_eq_true c7
    clear c7
    obtain ⟨ji8, hji8⟩ : ∃ j_ : Int, (shl .u64 1 (ji6)) = j_ := ⟨_, rfl⟩
    replace H : (some ((Go.bits .andNot .u64 (a0 : Int) (IntKind.u64.wrap ((ji8) - 1))).toNat)) = some r := by first | (rw [hji8] at H; exact H) | (simp only [hji8] at H ⊢; exact H)
    (try rw [hji8] at A2)
    have hji8_ : (IntKind.u64.wrap (1 * 2 ^ min (ji6).toNat 64)) = ji8 := hji8
    have hji8z : (ji6) ≤ 64 → (IntKind.u64.wrap (1 * 2 ^ (ji6).toNat)) = ji8 := shl_small hji8
    have hji8u : (IntKind.u64.wrap (2 ^ min (ji6).toNat 64)) = ji8 := by have h_ := hji8_; rw [Int.one_mul] at h_; exact h_
    have hji8v : (ji6) ≤ 64 → (IntKind.u64.wrap (2 ^ (ji6).toNat)) = ji8 := fun hle_ => by have h_ := hji8z hle_; rw [Int.one_mul] at h_; exact h_
    obtain rfl := Option.some.inj H
    go_enter Try.func83, Try.ntmps83
    go_wp2_with (first | ((with_reducible refine gate_callee (f := 77) rfl ?_); refine goesL_ (some 6) rfl rfl Try.func77 (by kernel_rfl) rfl #[.float .f64 a0] rfl (by (try simp only [List.map_toArray, List.map_cons, List.map_nil]); first | done | rfl | (simp only [List.length_drop, List.length_take]; rfl)) ?_; (with_reducible refine (math_Abs.calls a0 t103 _ A2.out).mono ?_); rintro e w' ⟨rfl, ⟨nd, rfl⟩⟩; refine ⟨_, rfl, ?_⟩))
    go_ret
    exact ⟨by first | rfl | (simp; done) | (simp only [← hji6, ← hji8] <;> (first | rfl | simp)) | (simp [*]; done), by repeat (first | exact Drawn0.refl _ | apply Drawn0.step)⟩
   ·rw [if_neg c7] at H
    exact absurd H (by simp)
  ·rw [if_neg c5] at H
   have c5b0 : decide ((IntKind.u64.wrap ((Go.bits .and .u64 ((a0 : Int) / 4503599627370496) 2047) - 1023)) < 52) = false := decide_eq_false c5
   clear c5
   obtain rfl := Option.some.inj H
   go_enter Try.func83, Try.ntmps83
   go_wp2_with (first | ((with_reducible refine gate_callee (f := 77) rfl ?_); refine goesL_ (some 6) rfl rfl Try.func77 (by kernel_rfl) rfl #[.float .f64 a0] rfl (by (try simp only [List.map_toArray, List.map_cons, List.map_nil]); first | done | rfl | (simp only [List.length_drop, List.length_take]; rfl)) ?_; (with_reducible refine (math_Abs.calls a0 t103 _ A2.out).mono ?_); rintro e w' ⟨rfl, ⟨nd, rfl⟩⟩; refine ⟨_, rfl, ?_⟩))
   go_ret
   exact ⟨by first | rfl | (simp; done) | (simp [*]; done), by repeat (first | exact Drawn0.refl _ | apply Drawn0.step)⟩

-- NOT PRINTED: function 81 (math_Trunc)

-- NOT PRINTED: function 80 (math_Modf)

-- NOT PRINTED: function 79 (math_floor)

/-! ### math_Floor: function 73 -/
def math_Floor.f (a0 : Nat) : Option (Nat) := if notNan a0 = true then (some (flr a0)) else (none)
set_option maxHeartbeats 8000000 in
set_option maxRecDepth 100000 in
theorem math_Floor.calls (a0 : Nat) (r : Nat) (w : World) (h : math_Floor.f a0 = some r) :
  Calls Try.prog 73 #[.float .f64 a0] w fun e w' => e = .returned (.float .f64 r) ∧ Drawn0 w w' := by
 have hx78 : ∀ (n_ : Nat) (w_ : World), notNan n_ = true → (callFunc 78 #[.float .f64 n_]).run Try.prog w_ = .ok (.value (.float .f64 (flr n_))) w_ := fun n_ w_ hn_ => (run_callFunc_extern (e := Extern.MathFloor.toIntegral "math.archFloor" .down) Try.func78 (by kernel_rfl) (by kernel_rfl) (by kernel_rfl) (by kernel_rfl) _ w_).trans (by rw [run_flr n_ w_ hn_]; rfl)
 have H : (if notNan a0 = true then (some (flr a0)) else (none)) = some r := h
 clear h
 by_cases c2 : notNan a0 = true
 ·rw [if_pos c2] at H
  have c2b0 : notNan a0 = true := c2
  clear c2
  obtain rfl := Option.some.inj H
  go_enter Try.func73, Try.ntmps73
  go_wp2
  go_ret
  exact ⟨by first | rfl | (simp; done) | (simp [*]; done), by repeat (first | exact Drawn0.refl _ | apply Drawn0.step)⟩
 ·rw [if_neg c2] at H
  exact absurd H (by simp)

/-! ### band_far: function 61 -/
def band_far.f (a0 : Int) (a1 : Nat) : Option (Int) := if (FloatKind.f64.format.mul (FloatKind.f64.nearest a0) a1).isSome = true then ((math_IsInf.f ((FloatKind.f64.format.mul (FloatKind.f64.nearest a0) a1).getD 0) 1).bind fun t107 => (if t107 = true then (some 1099511627776) else (if (FloatKind.f64.format.order ((FloatKind.f64.format.mul (FloatKind.f64.nearest a0) a1).getD 0) 4787326403894837248 == some .gt || FloatKind.f64.format.order ((FloatKind.f64.format.mul (FloatKind.f64.nearest a0) a1).getD 0) 4787326403894837248 == some .eq) = true then (some 1099511627776) else ((math_Floor.f ((FloatKind.f64.format.mul (FloatKind.f64.nearest a0) a1).getD 0)).bind fun t108 => (if (floatToIntVal .f64 t108 .i64).isSome = true then (some ((floatToIntVal .f64 t108 .i64).getD 0)) else (none)))))) else (none)
set_option maxHeartbeats 8000000 in
set_option maxRecDepth 100000 in
theorem band_far.calls (a0 : Int) (a1 : Nat) (r : Int) (w : World) (h : band_far.f a0 a1 = some r) :
  Calls Try.prog 61 #[.int .i64 a0, .float .f64 a1] w fun e w' => e = .returned (.int .i64 r) ∧ Drawn0 w w' := by
 have hcv2_46 : ∀ (n_ : Int) (w_ : World), (convert 2 46 (.int .i64 n_)).run Try.prog w_ = .ok (.float .f64 (FloatKind.f64.nearest n_)) w_ := fun n_ w_ => by simp [convert, run_underlying Try.underlying2, run_underlying Try.underlying46, Conv.intToFloat]
 have hmul : ∀ (t_ : TypeId) (x_ y_ : Nat) (w_ : World), (FloatKind.f64.format.mul x_ y_).isSome = true → (binOp .mul t_ (.float .f64 x_) (.float .f64 y_)).run Try.prog w_ = .ok (.float .f64 ((FloatKind.f64.format.mul x_ y_).getD 0)) w_ := fun t_ x_ y_ w_ hn_ => run_fmul hn_
 have hcv46_2 : ∀ (n_ : Nat) (w_ : World), (floatToIntVal .f64 n_ .i64).isSome = true → (convert 46 2 (.float .f64 n_)).run Try.prog w_ = .ok (.int .i64 ((floatToIntVal .f64 n_ .i64).getD 0)) w_ := fun n_ w_ hn_ => run_cfi (by rw [Try.underlying46]; rfl) Try.underlying2 hn_
 have H : (if (FloatKind.f64.format.mul (FloatKind.f64.nearest a0) a1).isSome = true then ((math_IsInf.f ((FloatKind.f64.format.mul (FloatKind.f64.nearest a0) a1).getD 0) 1).bind fun t107 => (if t107 = true then (some 1099511627776) else (if (FloatKind.f64.format.order ((FloatKind.f64.format.mul (FloatKind.f64.nearest a0) a1).getD 0) 4787326403894837248 == some .gt || FloatKind.f64.format.order ((FloatKind.f64.format.mul (FloatKind.f64.nearest a0) a1).getD 0) 4787326403894837248 == some .eq) = true then (some 1099511627776) else ((math_Floor.f ((FloatKind.f64.format.mul (FloatKind.f64.nearest a0) a1).getD 0)).bind fun t108 => (if (floatToIntVal .f64 t108 .i64).isSome = true then (some ((floatToIntVal .f64 t108 .i64).getD 0)) else (none)))))) else (none)) = some r := h
 clear h
 by_cases c3 : (FloatKind.f64.format.mul (FloatKind.f64.nearest a0) a1).isSome = true
 ·rw [if_pos c3] at H
  have c3b0 : (FloatKind.f64.format.mul (FloatKind.f64.nearest a0) a1).isSome = true := c3
  clear c3
  replace H := Option.bind_eq_some_iff.mp H
  obtain ⟨t107, A40, H⟩ := H
  replace H : (if t107 = true then (some 1099511627776) else (if (FloatKind.f64.format.order ((FloatKind.f64.format.mul (FloatKind.f64.nearest a0) a1).getD 0) 4787326403894837248 == some .gt || FloatKind.f64.format.order ((FloatKind.f64.format.mul (FloatKind.f64.nearest a0) a1).getD 0) 4787326403894837248 == some .eq) = true then (some 1099511627776) else ((math_Floor.f ((FloatKind.f64.format.mul (FloatKind.f64.nearest a0) a1).getD 0)).bind fun t108 => (if (floatToIntVal .f64 t108 .i64).isSome = true then (some ((floatToIntVal .f64 t108 .i64).getD 0)) else (none))))) = some r := H
  have A4 := Aside0.mk A40
  clear A40
  by_cases c5 : t107 = true
  ·subst c5
   have H1 : (some 1099511627776) = some r := by rw [if_pos rfl] at H; exact H
   clear H
   have H := H1
   clear H1
   obtain rfl := Option.some.inj H
   go_enter Try.func61, Try.ntmps61
   go_wp2_with (first | ((with_reducible refine gate_callee (f := 72) rfl ?_); refine goesL_ (some 11) rfl rfl Try.func72 (by kernel_rfl) rfl #[.float .f64 ((FloatKind.f64.format.mul (FloatKind.f64.nearest a0) a1).getD 0), .int .i64 1] rfl (by (try simp only [List.map_toArray, List.map_cons, List.map_nil]); first | done | rfl | (simp only [List.length_drop, List.length_take]; rfl)) ?_; (with_reducible refine (math_IsInf.calls ((FloatKind.f64.format.mul (FloatKind.f64.nearest a0) a1).getD 0) 1 true _ A4.out).mono ?_); rintro e w' ⟨rfl, ⟨nd, rfl⟩⟩; refine ⟨_, rfl, ?_⟩))
   go_ret
   exact ⟨by first | rfl | (simp; done) | (simp [*]; done), by repeat (first | exact Drawn0.refl _ | apply Drawn0.step)⟩
  ·replace c5 := Bool.eq_false_iff.mpr c5
   subst c5
   have H1 : (if (FloatKind.f64.format.order ((FloatKind.f64.format.mul (FloatKind.f64.nearest a0) a1).getD 0) 4787326403894837248 == some .gt || FloatKind.f64.format.order ((FloatKind.f64.format.mul (FloatKind.f64.nearest a0) a1).getD 0) 4787326403894837248 == some .eq) = true then (some 1099511627776) else ((math_Floor.f ((FloatKind.f64.format.mul (FloatKind.f64.nearest a0) a1).getD 0)).bind fun t108 => (if (floatToIntVal .f64 t108 .i64).isSome = true then (some ((floatToIntVal .f64 t108 .i64).getD 0)) else (none)))) = some r := by rw [if_neg (show ¬ (false = true) by decide)] at H; exact H
   clear H
   have H := H1
   clear H1
   by_cases c6 : (FloatKind.f64.format.order ((FloatKind.f64.format.mul (FloatKind.f64.nearest a0) a1).getD 0) 4787326403894837248 == some .gt || FloatKind.f64.format.order ((FloatKind.f64.format.mul (FloatKind.f64.nearest a0) a1).getD 0) 4787326403894837248 == some .eq) = true
   ·rw [if_pos c6] at H
    have c6b0 : (FloatKind.f64.format.order ((FloatKind.f64.format.mul (FloatKind.f64.nearest a0) a1).getD 0) 4787326403894837248 == some .gt || FloatKind.f64.format.order ((FloatKind.f64.format.mul (FloatKind.f64.nearest a0) a1).getD 0) 4787326403894837248 == some .eq) = true := c6
    (try (have c6b1 : decide (FloatKind.f64.format.order ((FloatKind.f64.format.mul (FloatKind.f64.nearest a0) a1).getD 0) 4787326403894837248 = some .gt || FloatKind.f64.format.order ((FloatKind.f64.format.mul (FloatKind.f64.nearest a0) a1).getD 0) 4787326403894837248 == some .eq) = true := by simpa using c6))
    (try (have c6b2 : (FloatKind.f64.format.order ((FloatKind.f64.format.mul (FloatKind.f64.nearest a0) a1).getD 0) 4787326403894837248 == some .gt || FloatKind.f64.format.order ((FloatKind.f64.format.mul (FloatKind.f64.nearest a0) a1).getD 0) 4787326403894837248 == some .eq) = true := by simpa using c6))
    clear c6
    obtain rfl := Option.some.inj H
    go_enter Try.func61, Try.ntmps61
    go_wp2_with (first | ((with_reducible refine gate_callee (f := 72) rfl ?_); refine goesL_ (some 11) rfl rfl Try.func72 (by kernel_rfl) rfl #[.float .f64 ((FloatKind.f64.format.mul (FloatKind.f64.nearest a0) a1).getD 0), .int .i64 1] rfl (by (try simp only [List.map_toArray, List.map_cons, List.map_nil]); first | done | rfl | (simp only [List.length_drop, List.length_take]; rfl)) ?_; (with_reducible refine (math_IsInf.calls ((FloatKind.f64.format.mul (FloatKind.f64.nearest a0) a1).getD 0) 1 false _ A4.out).mono ?_); rintro e w' ⟨rfl, ⟨nd, rfl⟩⟩; refine ⟨_, rfl, ?_⟩))
    go_ret
    exact ⟨by first | rfl | (simp; done) | (simp [*]; done), by repeat (first | exact Drawn0.refl _ | apply Drawn0.step)⟩
   ·rw [if_neg c6] at H
    have c6b0 : (FloatKind.f64.format.order ((FloatKind.f64.format.mul (FloatKind.f64.nearest a0) a1).getD 0) 4787326403894837248 == some .gt || FloatKind.f64.format.order ((FloatKind.f64.format.mul (FloatKind.f64.nearest a0) a1).getD 0) 4787326403894837248 == some .eq) = false := by simpa using c6
    (try (have c6b1 : decide (FloatKind.f64.format.order ((FloatKind.f64.format.mul (FloatKind.f64.nearest a0) a1).getD 0) 4787326403894837248 = some .gt || FloatKind.f64.format.order ((FloatKind.f64.format.mul (FloatKind.f64.nearest a0) a1).getD 0) 4787326403894837248 == some .eq) = false := by simpa using c6))
    (try (have c6b2 : (FloatKind.f64.format.order ((FloatKind.f64.format.mul (FloatKind.f64.nearest a0) a1).getD 0) 4787326403894837248 == some .gt || FloatKind.f64.format.order ((FloatKind.f64.format.mul (FloatKind.f64.nearest a0) a1).getD 0) 4787326403894837248 == some .eq) = false := by simpa using c6))
    (try (have c6b3 : ¬ (FloatKind.f64.format.order ((FloatKind.f64.format.mul (FloatKind.f64.nearest a0) a1).getD 0) 4787326403894837248 = some .gt || FloatKind.f64.format.order ((FloatKind.f64.format.mul (FloatKind.f64.nearest a0) a1).getD 0) 4787326403894837248 == some .eq) := by simpa using c6))
    clear c6
    replace H := Option.bind_eq_some_iff.mp H
    obtain ⟨t108, A70, H⟩ := H
    replace H : (if (floatToIntVal .f64 t108 .i64).isSome = true then (some ((floatToIntVal .f64 t108 .i64).getD 0)) else (none)) = some r := H
    have A7 := Aside0.mk A70
    clear A70
    by_cases c8 : (floatToIntVal .f64 t108 .i64).isSome = true
    ·rw [if_pos c8] at H
     have c8b0 : (floatToIntVal .f64 t108 .i64).isSome = true := c8
     clear c8
     obtain rfl := Option.some.inj H
     go_enter Try.func61, Try.ntmps61
     go_wp2_with (first | ((with_reducible refine gate_callee (f := 72) rfl ?_); refine goesL_ (some 11) rfl rfl Try.func72 (by kernel_rfl) rfl #[.float .f64 ((FloatKind.f64.format.mul (FloatKind.f64.nearest a0) a1).getD 0), .int .i64 1] rfl (by (try simp only [List.map_toArray, List.map_cons, List.map_nil]); first | done | rfl | (simp only [List.length_drop, List.length_take]; rfl)) ?_; (with_reducible refine (math_IsInf.calls ((FloatKind.f64.format.mul (FloatKind.f64.nearest a0) a1).getD 0) 1 false _ A4.out).mono ?_); rintro e w' ⟨rfl, ⟨nd, rfl⟩⟩; refine ⟨_, rfl, ?_⟩) | ((with_reducible refine gate_callee (f := 73) rfl ?_); refine goesL_ (some 17) rfl rfl Try.func73 (by kernel_rfl) rfl #[.float .f64 ((FloatKind.f64.format.mul (FloatKind.f64.nearest a0) a1).getD 0)] rfl (by (try simp only [List.map_toArray, List.map_cons, List.map_nil]); first | done | rfl | (simp only [List.length_drop, List.length_take]; rfl)) ?_; (with_reducible refine (math_Floor.calls ((FloatKind.f64.format.mul (FloatKind.f64.nearest a0) a1).getD 0) t108 _ A7.out).mono ?_); rintro e w' ⟨rfl, ⟨nd, rfl⟩⟩; refine ⟨_, rfl, ?_⟩))
     go_ret
     exact ⟨by first | rfl | (simp; done) | (simp [*]; done), by repeat (first | exact Drawn0.refl _ | apply Drawn0.step)⟩
    ·rw [if_neg c8] at H
     exact absurd H (by simp)
 ·rw [if_neg c3] at H
  exact absurd H (by simp)

/-! ### band_Collar: function 34 -/
def band_Collar.f (a0 : Int) (a1 : Nat) : Option (Int × Int × Bool) := (band_Right.f a1).bind fun t109 => (if t109 = true then (if a0 < 1 then (some (0, 0, false)) else (if a0 > 1099511627776 then (some (0, 0, false)) else ((band_far.f a0 a1).bind fun t110 => (some (mx (wrap64 (a0 - t110)) 1, mn (wrap64 (a0 + t110)) 1099511627776, true))))) else (some (0, 0, false)))
set_option maxHeartbeats 8000000 in
set_option maxRecDepth 100000 in
theorem band_Collar.calls (a0 : Int) (a1 : Nat) (r1 : Int) (r2 : Int) (r3 : Bool) (w : World) (h : band_Collar.f a0 a1 = some (r1, r2, r3)) :
  Calls Try.prog 34 #[.int .i64 a0, .float .f64 a1] w fun e w' => e = .returned (.tuple #[.int .i64 r1, .int .i64 r2, .bool r3]) ∧ Below w.heap.size w w' := by
 have HB := Aside0.mk (Below.refl w.heap.size w)
 have H : ((band_Right.f a1).bind fun t109 => (if t109 = true then (if a0 < 1 then (some (0, 0, false)) else (if a0 > 1099511627776 then (some (0, 0, false)) else ((band_far.f a0 a1).bind fun t110 => (some (mx (wrap64 (a0 - t110)) 1, mn (wrap64 (a0 + t110)) 1099511627776, true))))) else (some (0, 0, false)))) = some (r1, r2, r3) := h
 clear h
 replace H := Option.bind_eq_some_iff.mp H
 obtain ⟨t109, A30, H⟩ := H
 replace H : (if t109 = true then (if a0 < 1 then (some (0, 0, false)) else (if a0 > 1099511627776 then (some (0, 0, false)) else ((band_far.f a0 a1).bind fun t110 => (some (mx (wrap64 (a0 - t110)) 1, mn (wrap64 (a0 + t110)) 1099511627776, true))))) else (some (0, 0, false))) = some (r1, r2, r3) := H
 have A3 := Aside0.mk A30
 clear A30
 by_cases c4 : t109 = true
 ·subst c4
  have H1 : (if a0 < 1 then (some (0, 0, false)) else (if a0 > 1099511627776 then (some (0, 0, false)) else ((band_far.f a0 a1).bind fun t110 => (some (mx (wrap64 (a0 - t110)) 1, mn (wrap64 (a0 + t110)) 1099511627776, true))))) = some (r1, r2, r3) := by rw [if_pos rfl] at H; exact H
  clear H
  have H := H1
  clear H1
  by_cases c5 : a0 < 1
  ·rw [if_pos c5] at H
   have c5b0 : decide (a0 < 1) = true := decide_eq_true c5
   clear c5
   simp only [Option.some.injEq, Prod.mk.injEq] at H
   obtain ⟨rfl, rfl, rfl⟩ := H
   go_enter Try.func34, Try.ntmps34
   go_wp2_with (first | ((with_reducible refine gate_callee (f := 38) rfl ?_); refine goesL_ (some 9) rfl rfl Try.func38 (by kernel_rfl) rfl #[.float .f64 a1] rfl (by (try simp only [List.map_toArray, List.map_cons, List.map_nil]); first | done | rfl | (simp only [List.length_drop, List.length_take]; rfl)) ?_; (with_reducible refine (band_Right.calls a1 true _ A3.out).mono ?_); rintro e w' ⟨rfl, ⟨nd, rfl⟩⟩; refine ⟨_, rfl, ?_⟩))
   go_ret3
   exact ⟨by first | rfl | (simp [errW_none, errW_some] <;> rfl) | (simp [*, errW_none, errW_some] <;> rfl), by repeat (first | (with_reducible first | exact HB.out | apply below_alloc | apply pw_below_drewN | apply below_drew1) | exact HB.out)⟩
  ·rw [if_neg c5] at H
   have c5b0 : decide (a0 < 1) = false := decide_eq_false c5
   clear c5
   by_cases c6 : a0 > 1099511627776
   ·rw [if_pos c6] at H
    have c6b0 : decide (1099511627776 < a0) = true := decide_eq_true c6
    clear c6
    simp only [Option.some.injEq, Prod.mk.injEq] at H
    obtain ⟨rfl, rfl, rfl⟩ := H
    go_enter Try.func34, Try.ntmps34
    go_wp2_with (first | ((with_reducible refine gate_callee (f := 38) rfl ?_); refine goesL_ (some 9) rfl rfl Try.func38 (by kernel_rfl) rfl #[.float .f64 a1] rfl (by (try simp only [List.map_toArray, List.map_cons, List.map_nil]); first | done | rfl | (simp only [List.length_drop, List.length_take]; rfl)) ?_; (with_reducible refine (band_Right.calls a1 true _ A3.out).mono ?_); rintro e w' ⟨rfl, ⟨nd, rfl⟩⟩; refine ⟨_, rfl, ?_⟩))
    go_ret3
    exact ⟨by first | rfl | (simp [errW_none, errW_some] <;> rfl) | (simp [*, errW_none, errW_some] <;> rfl), by repeat (first | (with_reducible first | exact HB.out | apply below_alloc | apply pw_below_drewN | apply below_drew1) | exact HB.out)⟩
   ·rw [if_neg c6] at H
    have c6b0 : decide (1099511627776 < a0) = false := decide_eq_false c6
    clear c6
    replace H := Option.bind_eq_some_iff.mp H
    obtain ⟨t110, A70, H⟩ := H
    replace H : (some (mx (wrap64 (a0 - t110)) 1, mn (wrap64 (a0 + t110)) 1099511627776, true)) = some (r1, r2, r3) := H
    have A7 := Aside0.mk A70
    clear A70
    obtain ⟨ji8, hji8⟩ : ∃ j_ : Int, (mx (wrap64 (a0 - t110)) 1) = j_ := ⟨_, rfl⟩
    replace H : (some (ji8, mn (wrap64 (a0 + t110)) 1099511627776, true)) = some (r1, r2, r3) := by first | (rw [hji8] at H; exact H) | (simp only [hji8] at H ⊢; exact H)
    (try rw [hji8] at A3)
    (try rw [hji8] at A7)
    (try (have hji8l : 1 ≤ ji8 := by (rw [← hji8]; unfold mx; (repeat' split) <;> omega)))
    (try (have hji8m : 0 ≤ ji8 := by omega))
    have hji8_ : (if (wrap64 (a0 - t110)) < 1 then 1 else (wrap64 (a0 - t110))) = ji8 := hji8
    obtain ⟨ji9, hji9⟩ : ∃ j_ : Int, (mn (wrap64 (a0 + t110)) 1099511627776) = j_ := ⟨_, rfl⟩
    replace H : (some (ji8, ji9, true)) = some (r1, r2, r3) := by first | (rw [hji9] at H; exact H) | (simp only [hji9] at H ⊢; exact H)
    (try rw [hji9] at A3)
    (try rw [hji9] at A7)
    (try (have hji9h : ji9 ≤ 1099511627776 := by (rw [← hji9]; unfold mn; (repeat' split) <;> omega)))
    (try (have hji9g : ji9 ≤ 64 := by omega))
    have hji9_ : (if 1099511627776 < (wrap64 (a0 + t110)) then 1099511627776 else (wrap64 (a0 + t110))) = ji9 := hji9
    simp only [Option.some.injEq, Prod.mk.injEq] at H
    obtain ⟨rfl, rfl, rfl⟩ := H
    go_enter Try.func34, Try.ntmps34
    go_wp2_with (first | ((with_reducible refine gate_callee (f := 38) rfl ?_); refine goesL_ (some 9) rfl rfl Try.func38 (by kernel_rfl) rfl #[.float .f64 a1] rfl (by (try simp only [List.map_toArray, List.map_cons, List.map_nil]); first | done | rfl | (simp only [List.length_drop, List.length_take]; rfl)) ?_; (with_reducible refine (band_Right.calls a1 true _ A3.out).mono ?_); rintro e w' ⟨rfl, ⟨nd, rfl⟩⟩; refine ⟨_, rfl, ?_⟩) | ((with_reducible refine gate_callee (f := 61) rfl ?_); refine goesL_ (some 21) rfl rfl Try.func61 (by kernel_rfl) rfl #[.int .i64 a0, .float .f64 a1] rfl (by (try simp only [List.map_toArray, List.map_cons, List.map_nil]); first | done | rfl | (simp only [List.length_drop, List.length_take]; rfl)) ?_; (with_reducible refine (band_far.calls a0 a1 t110 _ A7.out).mono ?_); rintro e w' ⟨rfl, ⟨nd, rfl⟩⟩; refine ⟨_, rfl, ?_⟩))
    go_ret3
    exact ⟨by first | rfl | (simp [errW_none, errW_some] <;> rfl) | (simp only [← hji8, ← hji9]; first | rfl | (simp [errW_none, errW_some] <;> rfl)) | (simp [*, errW_none, errW_some] <;> rfl), by repeat (first | (with_reducible first | exact HB.out | apply below_alloc | apply pw_below_drewN | apply below_drew1) | exact HB.out)⟩
 ·replace c4 := Bool.eq_false_iff.mpr c4
  subst c4
  have H1 : (some (0, 0, false)) = some (r1, r2, r3) := by rw [if_neg (show ¬ (false = true) by decide)] at H; exact H
  clear H
  have H := H1
  clear H1
  simp only [Option.some.injEq, Prod.mk.injEq] at H
  obtain ⟨rfl, rfl, rfl⟩ := H
  go_enter Try.func34, Try.ntmps34
  go_wp2_with (first | ((with_reducible refine gate_callee (f := 38) rfl ?_); refine goesL_ (some 9) rfl rfl Try.func38 (by kernel_rfl) rfl #[.float .f64 a1] rfl (by (try simp only [List.map_toArray, List.map_cons, List.map_nil]); first | done | rfl | (simp only [List.length_drop, List.length_take]; rfl)) ?_; (with_reducible refine (band_Right.calls a1 false _ A3.out).mono ?_); rintro e w' ⟨rfl, ⟨nd, rfl⟩⟩; refine ⟨_, rfl, ?_⟩))
  go_ret3
  exact ⟨by first | rfl | (simp [errW_none, errW_some] <;> rfl) | (simp [*, errW_none, errW_some] <;> rfl), by repeat (first | (with_reducible first | exact HB.out | apply below_alloc | apply pw_below_drewN | apply below_drew1) | exact HB.out)⟩

/-! ### math_Inf: function 62 -/
def math_Inf.f (a0 : Int) : Option (Nat) := if a0 ≥ 0 then (some 9218868437227405312) else (some 18442240474082181120)
set_option maxHeartbeats 8000000 in
set_option maxRecDepth 100000 in
theorem math_Inf.calls (a0 : Int) (r : Nat) (w : World) (h : math_Inf.f a0 = some r) :
  Calls Try.prog 62 #[.int .i64 a0] w fun e w' => e = .returned (.float .f64 r) ∧ Drawn0 w w' := by
 have hx33 : ∀ (n_ : Int) (w_ : World), (callFunc 33 #[.int .u64 n_]).run Try.prog w_ = .ok (.value (.float .f64 n_.toNat)) w_ := fun n_ w_ => (run_callFunc_extern (e := Extern.MathFloatBits.float64frombits) Try.func33 (by kernel_rfl) (by kernel_rfl) (by kernel_rfl) (by kernel_rfl) _ w_).trans rfl
 have H : (if a0 ≥ 0 then (some 9218868437227405312) else (some 18442240474082181120)) = some r := h
 clear h
 by_cases c2 : a0 ≥ 0
 ·rw [if_pos c2] at H
  have c2b0 : decide (0 ≤ a0) = true := decide_eq_true c2
  clear c2
  obtain rfl := Option.some.inj H
  go_enter Try.func62, Try.ntmps62
  go_wp2
  go_ret
  exact ⟨by first | rfl | (simp; done) | (simp [*]; done), by repeat (first | exact Drawn0.refl _ | apply Drawn0.step)⟩
 ·rw [if_neg c2] at H
  have c2b0 : decide (0 ≤ a0) = false := decide_eq_false c2
  clear c2
  obtain rfl := Option.some.inj H
  go_enter Try.func62, Try.ntmps62
  go_wp2
  go_ret
  exact ⟨by first | rfl | (simp; done) | (simp [*]; done), by repeat (first | exact Drawn0.refl _ | apply Drawn0.step)⟩

/-! ### math_NaN: function 64 -/
def math_NaN.f  : Option (Nat) := some 9221120237041090561
set_option maxHeartbeats 8000000 in
set_option maxRecDepth 100000 in
theorem math_NaN.calls  (r : Nat) (w : World) (h : math_NaN.f  = some r) :
  Calls Try.prog 64 #[] w fun e w' => e = .returned (.float .f64 r) ∧ Drawn0 w w' := by
 have hx33 : ∀ (n_ : Int) (w_ : World), (callFunc 33 #[.int .u64 n_]).run Try.prog w_ = .ok (.value (.float .f64 n_.toNat)) w_ := fun n_ w_ => (run_callFunc_extern (e := Extern.MathFloatBits.float64frombits) Try.func33 (by kernel_rfl) (by kernel_rfl) (by kernel_rfl) (by kernel_rfl) _ w_).trans rfl
 have H : (some 9221120237041090561) = some r := h
 clear h
 obtain rfl := Option.some.inj H
 go_enter Try.func64, Try.ntmps64
 go_wp2
 go_ret
 exact ⟨by first | rfl | (simp; done) | (simp [*]; done), by repeat (first | exact Drawn0.refl _ | apply Drawn0.step)⟩

/-! ### stopgatelaw02_told: function 35 -/
def stopgatelaw02_told.f  : Option (Bool) := (band_Collar.f 100 4587366580439587226).bind fun bt111 => ((math_Inf.f 1).bind fun t114 => ((band_Collar.f 100 t114).bind fun bt115 => ((math_Copysign.f 0 13830554455654793216).bind fun t118 => ((band_Collar.f 100 t118).bind fun bt119 => (if bt111.1 = 95 then (if bt111.2.1 = 105 then (if bt111.2.2 = true then (if bt115.1 = 1 then (if bt115.2.1 = 1099511627776 then (if bt115.2.2 = true then (if bt119.1 = 100 then (if bt119.2.1 = 100 then (if bt119.2.2 = true then ((math_NaN.f).bind fun t122 => ((band_Right.f t122).bind fun t123 => (if t123 = true then (none) else ((math_Inf.f (-1)).bind fun t124 => ((band_Right.f t124).bind fun t125 => (if t125 = true then (none) else ((band_Right.f 4602678819172646912).bind fun t126 => (some t126)))))))) else (none)) else (none)) else (none)) else (none)) else (none)) else (none)) else (none)) else (none)) else (none))))))
set_option maxHeartbeats 8000000 in
set_option maxRecDepth 100000 in
theorem stopgatelaw02_told.calls  (r : Bool) (w : World) (h : stopgatelaw02_told.f  = some r) :
  Calls Try.prog 35 #[] w fun e w' => e = .returned (.bool r) ∧ Below w.heap.size w w' := by
 have HB := Aside0.mk (Below.refl w.heap.size w)
 have H : ((band_Collar.f 100 4587366580439587226).bind fun bt111 => ((math_Inf.f 1).bind fun t114 => ((band_Collar.f 100 t114).bind fun bt115 => ((math_Copysign.f 0 13830554455654793216).bind fun t118 => ((band_Collar.f 100 t118).bind fun bt119 => (if bt111.1 = 95 then (if bt111.2.1 = 105 then (if bt111.2.2 = true then (if bt115.1 = 1 then (if bt115.2.1 = 1099511627776 then (if bt115.2.2 = true then (if bt119.1 = 100 then (if bt119.2.1 = 100 then (if bt119.2.2 = true then ((math_NaN.f).bind fun t122 => ((band_Right.f t122).bind fun t123 => (if t123 = true then (none) else ((math_Inf.f (-1)).bind fun t124 => ((band_Right.f t124).bind fun t125 => (if t125 = true then (none) else ((band_Right.f 4602678819172646912).bind fun t126 => (some t126)))))))) else (none)) else (none)) else (none)) else (none)) else (none)) else (none)) else (none)) else (none)) else (none))))))) = some r := h
 clear h
 replace H := Option.bind_eq_some_iff.mp H
 obtain ⟨⟨t111, t112, t113⟩, A10, H⟩ := H
 replace H : ((math_Inf.f 1).bind fun t114 => ((band_Collar.f 100 t114).bind fun bt115 => ((math_Copysign.f 0 13830554455654793216).bind fun t118 => ((band_Collar.f 100 t118).bind fun bt119 => (if t111 = 95 then (if t112 = 105 then (if t113 = true then (if bt115.1 = 1 then (if bt115.2.1 = 1099511627776 then (if bt115.2.2 = true then (if bt119.1 = 100 then (if bt119.2.1 = 100 then (if bt119.2.2 = true then ((math_NaN.f).bind fun t122 => ((band_Right.f t122).bind fun t123 => (if t123 = true then (none) else ((math_Inf.f (-1)).bind fun t124 => ((band_Right.f t124).bind fun t125 => (if t125 = true then (none) else ((band_Right.f 4602678819172646912).bind fun t126 => (some t126)))))))) else (none)) else (none)) else (none)) else (none)) else (none)) else (none)) else (none)) else (none)) else (none)))))) = some r := H
 have A1 := Aside0.mk A10
 clear A10
 replace H := Option.bind_eq_some_iff.mp H
 obtain ⟨t114, A20, H⟩ := H
 replace H : ((band_Collar.f 100 t114).bind fun bt115 => ((math_Copysign.f 0 13830554455654793216).bind fun t118 => ((band_Collar.f 100 t118).bind fun bt119 => (if t111 = 95 then (if t112 = 105 then (if t113 = true then (if bt115.1 = 1 then (if bt115.2.1 = 1099511627776 then (if bt115.2.2 = true then (if bt119.1 = 100 then (if bt119.2.1 = 100 then (if bt119.2.2 = true then ((math_NaN.f).bind fun t122 => ((band_Right.f t122).bind fun t123 => (if t123 = true then (none) else ((math_Inf.f (-1)).bind fun t124 => ((band_Right.f t124).bind fun t125 => (if t125 = true then (none) else ((band_Right.f 4602678819172646912).bind fun t126 => (some t126)))))))) else (none)) else (none)) else (none)) else (none)) else (none)) else (none)) else (none)) else (none)) else (none))))) = some r := H
 have A2 := Aside0.mk A20
 clear A20
 replace H := Option.bind_eq_some_iff.mp H
 obtain ⟨⟨t115, t116, t117⟩, A30, H⟩ := H
 replace H : ((math_Copysign.f 0 13830554455654793216).bind fun t118 => ((band_Collar.f 100 t118).bind fun bt119 => (if t111 = 95 then (if t112 = 105 then (if t113 = true then (if t115 = 1 then (if t116 = 1099511627776 then (if t117 = true then (if bt119.1 = 100 then (if bt119.2.1 = 100 then (if bt119.2.2 = true then ((math_NaN.f).bind fun t122 => ((band_Right.f t122).bind fun t123 => (if t123 = true then (none) else ((math_Inf.f (-1)).bind fun t124 => ((band_Right.f t124).bind fun t125 => (if t125 = true then (none) else ((band_Right.f 4602678819172646912).bind fun t126 => (some t126)))))))) else (none)) else (none)) else (none)) else (none)) else (none)) else (none)) else (none)) else (none)) else (none)))) = some r := H
 have A3 := Aside0.mk A30
 clear A30
 replace H := Option.bind_eq_some_iff.mp H
 obtain ⟨t118, A40, H⟩ := H
 replace H : ((band_Collar.f 100 t118).bind fun bt119 => (if t111 = 95 then (if t112 = 105 then (if t113 = true then (if t115 = 1 then (if t116 = 1099511627776 then (if t117 = true then (if bt119.1 = 100 then (if bt119.2.1 = 100 then (if bt119.2.2 = true then ((math_NaN.f).bind fun t122 => ((band_Right.f t122).bind fun t123 => (if t123 = true then (none) else ((math_Inf.f (-1)).bind fun t124 => ((band_Right.f t124).bind fun t125 => (if t125 = true then (none) else ((band_Right.f 4602678819172646912).bind fun t126 => (some t126)))))))) else (none)) else (none)) else (none)) else (none)) else (none)) else (none)) else (none)) else (none)) else (none))) = some r := H
 have A4 := Aside0.mk A40
 clear A40
 replace H := Option.bind_eq_some_iff.mp H
 obtain ⟨⟨t119, t120, t121⟩, A50, H⟩ := H
 replace H : (if t111 = 95 then (if t112 = 105 then (if t113 = true then (if t115 = 1 then (if t116 = 1099511627776 then (if t117 = true then (if t119 = 100 then (if t120 = 100 then (if t121 = true then ((math_NaN.f).bind fun t122 => ((band_Right.f t122).bind fun t123 => (if t123 = true then (none) else ((math_Inf.f (-1)).bind fun t124 => ((band_Right.f t124).bind fun t125 => (if t125 = true then (none) else ((band_Right.f 4602678819172646912).bind fun t126 => (some t126)))))))) else (none)) else (none)) else (none)) else (none)) else (none)) else (none)) else (none)) else (none)) else (none)) = some r := H
 have A5 := Aside0.mk A50
 clear A50
 by_cases c6 : t111 = 95
 ·rw [if_pos c6] at H
  have c6b0 : (t111 == 95) = true := beq_iff_eq.mpr c6
  have c6b1 : (t111 != 95) = false := bne_eq_false_iff_eq.mpr c6
  clear c6
  by_cases c7 : t112 = 105
  ·rw [if_pos c7] at H
   have c7b0 : (t112 == 105) = true := beq_iff_eq.mpr c7
   have c7b1 : (t112 != 105) = false := bne_eq_false_iff_eq.mpr c7
   clear c7
   by_cases c8 : t113 = true
   ·subst c8
    have H1 : (if t115 = 1 then (if t116 = 1099511627776 then (if t117 = true then (if t119 = 100 then (if t120 = 100 then (if t121 = true then ((math_NaN.f).bind fun t122 => ((band_Right.f t122).bind fun t123 => (if t123 = true then (none) else ((math_Inf.f (-1)).bind fun t124 => ((band_Right.f t124).bind fun t125 => (if t125 = true then (none) else ((band_Right.f 4602678819172646912).bind fun t126 => (some t126)))))))) else (none)) else (none)) else (none)) else (none)) else (none)) else (none)) = some r := by rw [if_pos rfl] at H; exact H
    clear H
    have H := H1
    clear H1
    by_cases c9 : t115 = 1
    ·rw [if_pos c9] at H
     have c9b0 : (t115 == 1) = true := beq_iff_eq.mpr c9
     have c9b1 : (t115 != 1) = false := bne_eq_false_iff_eq.mpr c9
     clear c9
     by_cases c10 : t116 = 1099511627776
     ·rw [if_pos c10] at H
      have c10b0 : (t116 == 1099511627776) = true := beq_iff_eq.mpr c10
      have c10b1 : (t116 != 1099511627776) = false := bne_eq_false_iff_eq.mpr c10
      clear c10
      by_cases c11 : t117 = true
      ·subst c11
       have H1 : (if t119 = 100 then (if t120 = 100 then (if t121 = true then ((math_NaN.f).bind fun t122 => ((band_Right.f t122).bind fun t123 => (if t123 = true then (none) else ((math_Inf.f (-1)).bind fun t124 => ((band_Right.f t124).bind fun t125 => (if t125 = true then (none) else ((band_Right.f 4602678819172646912).bind fun t126 => (some t126)))))))) else (none)) else (none)) else (none)) = some r := by rw [if_pos rfl] at H; exact H
       clear H
       have H := H1
       clear H1
       by_cases c12 : t119 = 100
       ·rw [if_pos c12] at H
        have c12b0 : (t119 == 100) = true := beq_iff_eq.mpr c12
        have c12b1 : (t119 != 100) = false := bne_eq_false_iff_eq.mpr c12
        clear c12
        by_cases c13 : t120 = 100
        ·rw [if_pos c13] at H
         have c13b0 : (t120 == 100) = true := beq_iff_eq.mpr c13
         have c13b1 : (t120 != 100) = false := bne_eq_false_iff_eq.mpr c13
         clear c13
         by_cases c14 : t121 = true
         ·subst c14
          have H1 : ((math_NaN.f).bind fun t122 => ((band_Right.f t122).bind fun t123 => (if t123 = true then (none) else ((math_Inf.f (-1)).bind fun t124 => ((band_Right.f t124).bind fun t125 => (if t125 = true then (none) else ((band_Right.f 4602678819172646912).bind fun t126 => (some t126)))))))) = some r := by rw [if_pos rfl] at H; exact H
          clear H
          have H := H1
          clear H1
          replace H := Option.bind_eq_some_iff.mp H
          obtain ⟨t122, A150, H⟩ := H
          replace H : ((band_Right.f t122).bind fun t123 => (if t123 = true then (none) else ((math_Inf.f (-1)).bind fun t124 => ((band_Right.f t124).bind fun t125 => (if t125 = true then (none) else ((band_Right.f 4602678819172646912).bind fun t126 => (some t126))))))) = some r := H
          have A15 := Aside0.mk A150
          clear A150
          replace H := Option.bind_eq_some_iff.mp H
          obtain ⟨t123, A160, H⟩ := H
          replace H : (if t123 = true then (none) else ((math_Inf.f (-1)).bind fun t124 => ((band_Right.f t124).bind fun t125 => (if t125 = true then (none) else ((band_Right.f 4602678819172646912).bind fun t126 => (some t126)))))) = some r := H
          have A16 := Aside0.mk A160
          clear A160
          by_cases c17 : t123 = true
          ·subst c17
           have H1 : (none) = some r := by rw [if_pos rfl] at H; exact H
           clear H
           have H := H1
           clear H1
           exact absurd H (by simp)
          ·replace c17 := Bool.eq_false_iff.mpr c17
           subst c17
           have H1 : ((math_Inf.f (-1)).bind fun t124 => ((band_Right.f t124).bind fun t125 => (if t125 = true then (none) else ((band_Right.f 4602678819172646912).bind fun t126 => (some t126))))) = some r := by rw [if_neg (show ¬ (false = true) by decide)] at H; exact H
           clear H
           have H := H1
           clear H1
           replace H := Option.bind_eq_some_iff.mp H
           obtain ⟨t124, A180, H⟩ := H
           replace H : ((band_Right.f t124).bind fun t125 => (if t125 = true then (none) else ((band_Right.f 4602678819172646912).bind fun t126 => (some t126)))) = some r := H
           have A18 := Aside0.mk A180
           clear A180
           replace H := Option.bind_eq_some_iff.mp H
           obtain ⟨t125, A190, H⟩ := H
           replace H : (if t125 = true then (none) else ((band_Right.f 4602678819172646912).bind fun t126 => (some t126))) = some r := H
           have A19 := Aside0.mk A190
           clear A190
           by_cases c20 : t125 = true
           ·subst c20
            have H1 : (none) = some r := by rw [if_pos rfl] at H; exact H
            clear H
            have H := H1
            clear H1
            exact absurd H (by simp)
           ·replace c20 := Bool.eq_false_iff.mpr c20
            subst c20
            have H1 : ((band_Right.f 4602678819172646912).bind fun t126 => (some t126)) = some r := by rw [if_neg (show ¬ (false = true) by decide)] at H; exact H
            clear H
            have H := H1
            clear H1
            replace H := Option.bind_eq_some_iff.mp H
            obtain ⟨t126, A210, H⟩ := H
            replace H : (some t126) = some r := H
            have A21 := Aside0.mk A210
            clear A210
            obtain rfl := Option.some.inj H
            go_enter Try.func35, Try.ntmps35
            go_wp2_with (first | ((with_reducible refine gate_callee (f := 34) rfl ?_); refine goesL_ (some 11) rfl rfl Try.func34 (by kernel_rfl) rfl #[.int .i64 100, .float .f64 4587366580439587226] rfl (by (try simp only [List.map_toArray, List.map_cons, List.map_nil]); first | done | rfl | (simp only [List.length_drop, List.length_take]; rfl)) ?_; (with_reducible refine (band_Collar.calls 100 4587366580439587226 t111 t112 true _ A1.out).mono ?_); rintro e w22 ⟨rfl, hb⟩; refine ⟨_, rfl, ?_⟩; have n0_ := Aside0.mk (below_step (by repeat (first | (with_reducible first | exact HB.out | apply below_alloc | apply pw_below_drewN | apply below_drew1) | exact HB.out)) hb); clear HB; have HB := n0_; clear n0_; (try clear hb); (try clear hb2); (try clear hk); (try clear hi)) | ((with_reducible refine gate_callee (f := 62) rfl ?_); refine goesL_ (some 16) rfl rfl Try.func62 (by kernel_rfl) rfl #[.int .i64 1] rfl (by (try simp only [List.map_toArray, List.map_cons, List.map_nil]); first | done | rfl | (simp only [List.length_drop, List.length_take]; rfl)) ?_; (with_reducible refine (math_Inf.calls 1 t114 _ A2.out).mono ?_); rintro e w' ⟨rfl, ⟨nd, rfl⟩⟩; refine ⟨_, rfl, ?_⟩) | ((with_reducible refine gate_callee (f := 34) rfl ?_); refine goesL_ (some 17) rfl rfl Try.func34 (by kernel_rfl) rfl #[.int .i64 100, .float .f64 t114] rfl (by (try simp only [List.map_toArray, List.map_cons, List.map_nil]); first | done | rfl | (simp only [List.length_drop, List.length_take]; rfl)) ?_; (with_reducible refine (band_Collar.calls 100 t114 t115 t116 true _ A3.out).mono ?_); rintro e w23 ⟨rfl, hb⟩; refine ⟨_, rfl, ?_⟩; have n0_ := Aside0.mk (below_step (by repeat (first | (with_reducible first | exact HB.out | apply below_alloc | apply pw_below_drewN | apply below_drew1) | exact HB.out)) hb); clear HB; have HB := n0_; clear n0_; (try clear hb); (try clear hb2); (try clear hk); (try clear hi)) | ((with_reducible refine gate_callee (f := 63) rfl ?_); refine goesL_ (some 22) rfl rfl Try.func63 (by kernel_rfl) rfl #[.float .f64 0, .float .f64 13830554455654793216] rfl (by (try simp only [List.map_toArray, List.map_cons, List.map_nil]); first | done | rfl | (simp only [List.length_drop, List.length_take]; rfl)) ?_; (with_reducible refine (math_Copysign.calls 0 13830554455654793216 t118 _ A4.out).mono ?_); rintro e w' ⟨rfl, ⟨nd, rfl⟩⟩; refine ⟨_, rfl, ?_⟩) | ((with_reducible refine gate_callee (f := 34) rfl ?_); refine goesL_ (some 23) rfl rfl Try.func34 (by kernel_rfl) rfl #[.int .i64 100, .float .f64 t118] rfl (by (try simp only [List.map_toArray, List.map_cons, List.map_nil]); first | done | rfl | (simp only [List.length_drop, List.length_take]; rfl)) ?_; (with_reducible refine (band_Collar.calls 100 t118 t119 t120 true _ A5.out).mono ?_); rintro e w24 ⟨rfl, hb⟩; refine ⟨_, rfl, ?_⟩; have n0_ := Aside0.mk (below_step (by repeat (first | (with_reducible first | exact HB.out | apply below_alloc | apply pw_below_drewN | apply below_drew1) | exact HB.out)) hb); clear HB; have HB := n0_; clear n0_; (try clear hb); (try clear hb2); (try clear hk); (try clear hi)) | (go_at_call 64; (with_reducible refine (math_NaN.calls  t122 _ A15.out).mono ?_); rintro e w' ⟨rfl, ⟨nd, rfl⟩⟩) | (go_at_call 38; (with_reducible refine (band_Right.calls t122 false _ A16.out).mono ?_); rintro e w' ⟨rfl, ⟨nd, rfl⟩⟩) | (go_at_call 62; (with_reducible refine (math_Inf.calls (-1) t124 _ A18.out).mono ?_); rintro e w' ⟨rfl, ⟨nd, rfl⟩⟩) | (go_at_call 38; (with_reducible refine (band_Right.calls t124 false _ A19.out).mono ?_); rintro e w' ⟨rfl, ⟨nd, rfl⟩⟩) | (go_at_call 38; (with_reducible refine (band_Right.calls 4602678819172646912 t126 _ A21.out).mono ?_); rintro e w' ⟨rfl, ⟨nd, rfl⟩⟩))
            go_ret
            exact ⟨by first | rfl | (simp [errW_none, errW_some] <;> rfl) | (simp [*, errW_none, errW_some] <;> rfl), by repeat (first | (with_reducible first | exact HB.out | apply below_alloc | apply pw_below_drewN | apply below_drew1) | exact HB.out)⟩
         ·replace c14 := Bool.eq_false_iff.mpr c14
          subst c14
          have H1 : (none) = some r := by rw [if_neg (show ¬ (false = true) by decide)] at H; exact H
          clear H
          have H := H1
          clear H1
          exact absurd H (by simp)
        ·rw [if_neg c13] at H
         exact absurd H (by simp)
       ·rw [if_neg c12] at H
        exact absurd H (by simp)
      ·replace c11 := Bool.eq_false_iff.mpr c11
       subst c11
       have H1 : (none) = some r := by rw [if_neg (show ¬ (false = true) by decide)] at H; exact H
       clear H
       have H := H1
       clear H1
       exact absurd H (by simp)
     ·rw [if_neg c10] at H
      exact absurd H (by simp)
    ·rw [if_neg c9] at H
     exact absurd H (by simp)
   ·replace c8 := Bool.eq_false_iff.mpr c8
    subst c8
    have H1 : (none) = some r := by rw [if_neg (show ¬ (false = true) by decide)] at H; exact H
    clear H
    have H := H1
    clear H1
    exact absurd H (by simp)
  ·rw [if_neg c7] at H
   exact absurd H (by simp)
 ·rw [if_neg c6] at H
  exact absurd H (by simp)

/-! ### stopgateref02_Right: function 36 -/
def stopgateref02_Right.f (a0 : Nat) : Option (Bool) := some (FloatKind.f64.format.order a0 0 == some .gt || FloatKind.f64.format.order a0 0 == some .eq)
set_option maxHeartbeats 8000000 in
set_option maxRecDepth 100000 in
theorem stopgateref02_Right.calls (a0 : Nat) (r : Bool) (w : World) (h : stopgateref02_Right.f a0 = some r) :
  Calls Try.prog 36 #[.float .f64 a0] w fun e w' => e = .returned (.bool r) ∧ Drawn0 w w' := by
 have H : (some (FloatKind.f64.format.order a0 0 == some .gt || FloatKind.f64.format.order a0 0 == some .eq)) = some r := h
 clear h
 obtain rfl := Option.some.inj H
 go_enter Try.func36, Try.ntmps36
 go_wp2
 go_ret
 exact ⟨by first | rfl | (simp; done) | (simp [*]; done), by repeat (first | exact Drawn0.refl _ | apply Drawn0.step)⟩

/-! ### stopgatelaw02_BandWidens: function 8 -/
def stopgatelaw02_BandWidens.j0 : Nat → Nat → Nat → Int → Int → Bool → Int → Int → Bool → Bool → Option (Bool)
 | 0, _, _, _, _, _, _, _, _, _ => none
 | k + 1, x8, x9, x10, x11, x12, x13, x14, x15, x48 => if x48 = true then ((stopgatelaw02_told.f).bind fun t134 => (if t134 = true then ((stopgateref02_Right.f x8).bind fun t135 => (if (x12 == t135) = true then ((stopgateref02_Right.f x9).bind fun t136 => (some (x15 == t136))) else (none))) else (none))) else (if (FloatKind.f64.format.order x8 x9 == some .gt) = true then (if x10 ≤ x13 then (some (decide (x11 ≥ x14))) else (none)) else (if x13 ≤ x10 then (some (decide (x14 ≥ x11))) else (none)))
def stopgatelaw02_BandWidens.f (k : Nat) (a0 : Int) (a1 : Int) (a2 : Int) : Option (Bool) := (band_Collar.f (wrap64 (1 + (wrap64 (Int.tmod (IntKind.u64.wrap (a0)) 1099511627776)))) a1.toNat).bind fun bt127 => ((band_Collar.f (wrap64 (1 + (wrap64 (Int.tmod (IntKind.u64.wrap (a0)) 1099511627776)))) a2.toNat).bind fun bt130 => ((stopgatelaw02_told.f).bind fun t133 => (if t133 = true then (if bt127.2.2 = true then (stopgatelaw02_BandWidens.j0 k a1.toNat a2.toNat bt127.1 bt127.2.1 bt127.2.2 bt130.1 bt130.2.1 bt130.2.2 (!bt130.2.2)) else (stopgatelaw02_BandWidens.j0 k a1.toNat a2.toNat bt127.1 bt127.2.1 bt127.2.2 bt130.1 bt130.2.1 bt130.2.2 true)) else (stopgatelaw02_BandWidens.j0 k a1.toNat a2.toNat bt127.1 bt127.2.1 bt127.2.2 bt130.1 bt130.2.1 bt130.2.2 true))))
theorem stopgatelaw02_BandWidens.mono_l : ∀ k, (∀ y0 y1 y2 y3 y4 y5 y6 y7 y8, LeO (stopgatelaw02_BandWidens.j0 k y0 y1 y2 y3 y4 y5 y6 y7 y8) (stopgatelaw02_BandWidens.j0 (k + 1) y0 y1 y2 y3 y4 y5 y6 y7 y8))
 | 0 => fun _ _ _ _ _ _ _ _ _ r h => by simp [stopgatelaw02_BandWidens.j0] at h
 | k + 1 => by
  have ih0 := stopgatelaw02_BandWidens.mono_l k
  ·intro y0 y1 y2 y3 y4 y5 y6 y7 y8
   unfold stopgatelaw02_BandWidens.j0
   repeat' first
   | (with_reducible exact ih0 _ _ _ _ _ _ _ _ _)
   | (with_reducible exact LeO.refl _)
   | (with_reducible exact LeO.none _)
   | (with_reducible refine LeO.ite ?_ ?_)
   | (with_reducible refine LeO.bind ?_ (fun _ => ?_))
   | exact ih0 _ _ _ _ _ _ _ _ _
   | exact LeO.none _
   | refine LeO.ite ?_ ?_
   | refine LeO.bind ?_ (fun _ => ?_)
theorem stopgatelaw02_BandWidens.mono : ∀ a0 a1 a2 k, LeO (stopgatelaw02_BandWidens.f k a0 a1 a2) (stopgatelaw02_BandWidens.f (k + 1) a0 a1 a2) := by
 intro a0 a1 a2 k
 have ih0 := stopgatelaw02_BandWidens.mono_l k
 unfold stopgatelaw02_BandWidens.f
 repeat' first
   | (with_reducible exact ih0 _ _ _ _ _ _ _ _ _)
   | (with_reducible exact LeO.refl _)
   | (with_reducible exact LeO.none _)
   | (with_reducible refine LeO.ite ?_ ?_)
   | (with_reducible refine LeO.bind ?_ (fun _ => ?_))
   | exact ih0 _ _ _ _ _ _ _ _ _
   | exact LeO.none _
   | refine LeO.ite ?_ ?_
   | refine LeO.bind ?_ (fun _ => ?_)
set_option maxHeartbeats 8000000 in
set_option maxRecDepth 100000 in
theorem stopgatelaw02_BandWidens.calls (k : Nat) (a0 : Int) (a1 : Int) (a2 : Int) (r : Bool) (w : World) (h : stopgatelaw02_BandWidens.f k a0 a1 a2 = some r) :
  Calls Try.prog 8 #[.int .i64 a0, .int .u64 a1, .int .u64 a2] w fun e w' => e = .returned (.bool r) ∧ Below w.heap.size w w' := by
 have hx33 : ∀ (n_ : Int) (w_ : World), (callFunc 33 #[.int .u64 n_]).run Try.prog w_ = .ok (.value (.float .f64 n_.toNat)) w_ := fun n_ w_ => (run_callFunc_extern (e := Extern.MathFloatBits.float64frombits) Try.func33 (by kernel_rfl) (by kernel_rfl) (by kernel_rfl) (by kernel_rfl) _ w_).trans rfl
 have HB := Aside0.mk (Below.refl w.heap.size w)
 have H : ((band_Collar.f (wrap64 (1 + (wrap64 (Int.tmod (IntKind.u64.wrap (a0)) 1099511627776)))) a1.toNat).bind fun bt127 => ((band_Collar.f (wrap64 (1 + (wrap64 (Int.tmod (IntKind.u64.wrap (a0)) 1099511627776)))) a2.toNat).bind fun bt130 => ((stopgatelaw02_told.f).bind fun t133 => (if t133 = true then (if bt127.2.2 = true then (stopgatelaw02_BandWidens.j0 k a1.toNat a2.toNat bt127.1 bt127.2.1 bt127.2.2 bt130.1 bt130.2.1 bt130.2.2 (!bt130.2.2)) else (stopgatelaw02_BandWidens.j0 k a1.toNat a2.toNat bt127.1 bt127.2.1 bt127.2.2 bt130.1 bt130.2.1 bt130.2.2 true)) else (stopgatelaw02_BandWidens.j0 k a1.toNat a2.toNat bt127.1 bt127.2.1 bt127.2.2 bt130.1 bt130.2.1 bt130.2.2 true))))) = some r := h
 clear h
 replace H := Option.bind_eq_some_iff.mp H
 obtain ⟨⟨t127, t128, t129⟩, A40, H⟩ := H
 replace H : ((band_Collar.f (wrap64 (1 + (wrap64 (Int.tmod (IntKind.u64.wrap (a0)) 1099511627776)))) a2.toNat).bind fun bt130 => ((stopgatelaw02_told.f).bind fun t133 => (if t133 = true then (if t129 = true then (stopgatelaw02_BandWidens.j0 k a1.toNat a2.toNat t127 t128 t129 bt130.1 bt130.2.1 bt130.2.2 (!bt130.2.2)) else (stopgatelaw02_BandWidens.j0 k a1.toNat a2.toNat t127 t128 t129 bt130.1 bt130.2.1 bt130.2.2 true)) else (stopgatelaw02_BandWidens.j0 k a1.toNat a2.toNat t127 t128 t129 bt130.1 bt130.2.1 bt130.2.2 true)))) = some r := H
 have A4 := Aside0.mk A40
 clear A40
 replace H := Option.bind_eq_some_iff.mp H
 obtain ⟨⟨t130, t131, t132⟩, A50, H⟩ := H
 replace H : ((stopgatelaw02_told.f).bind fun t133 => (if t133 = true then (if t129 = true then (stopgatelaw02_BandWidens.j0 k a1.toNat a2.toNat t127 t128 t129 t130 t131 t132 (!t132)) else (stopgatelaw02_BandWidens.j0 k a1.toNat a2.toNat t127 t128 t129 t130 t131 t132 true)) else (stopgatelaw02_BandWidens.j0 k a1.toNat a2.toNat t127 t128 t129 t130 t131 t132 true))) = some r := H
 have A5 := Aside0.mk A50
 clear A50
 have HC6 := Aside0.mk H
 clear H
 go_enter Try.func8, Try.ntmps8
 go_upto_region 5 with (first | ((with_reducible refine gate_callee (f := 34) rfl ?_); refine goesL_ (some 28) rfl rfl Try.func34 (by kernel_rfl) rfl #[.int .i64 (wrap64 (1 + (wrap64 (Int.tmod (IntKind.u64.wrap (a0)) 1099511627776)))), .float .f64 a1.toNat] rfl (by (try simp only [List.map_toArray, List.map_cons, List.map_nil]); first | done | rfl | (simp only [List.length_drop, List.length_take]; rfl)) ?_; (with_reducible refine (band_Collar.calls (wrap64 (1 + (wrap64 (Int.tmod (IntKind.u64.wrap (a0)) 1099511627776)))) a1.toNat t127 t128 t129 _ A4.out).mono ?_); rintro e w7 ⟨rfl, hb⟩; refine ⟨_, rfl, ?_⟩; have n0_ := Aside0.mk (below_step (by repeat (first | (with_reducible first | exact HB.out | apply below_alloc | apply pw_below_drewN | apply below_drew1) | exact HB.out)) hb); clear HB; have HB := n0_; clear n0_; (try clear hb); (try clear hb2); (try clear hk); (try clear hi)) | ((with_reducible refine gate_callee (f := 34) rfl ?_); refine goesL_ (some 35) rfl rfl Try.func34 (by kernel_rfl) rfl #[.int .i64 (wrap64 (1 + (wrap64 (Int.tmod (IntKind.u64.wrap (a0)) 1099511627776)))), .float .f64 a2.toNat] rfl (by (try simp only [List.map_toArray, List.map_cons, List.map_nil]); first | done | rfl | (simp only [List.length_drop, List.length_take]; rfl)) ?_; (with_reducible refine (band_Collar.calls (wrap64 (1 + (wrap64 (Int.tmod (IntKind.u64.wrap (a0)) 1099511627776)))) a2.toNat t130 t131 t132 _ A5.out).mono ?_); rintro e w8 ⟨rfl, hb⟩; refine ⟨_, rfl, ?_⟩; have n0_ := Aside0.mk (below_step (by repeat (first | (with_reducible first | exact HB.out | apply below_alloc | apply pw_below_drewN | apply below_drew1) | exact HB.out)) hb); clear HB; have HB := n0_; clear n0_; (try clear hb); (try clear hb2); (try clear hk); (try clear hi)))
 (try simp only [Act.put, List.setIfInBounds_toArray, List.set_cons_zero, List.set_cons_succ])
 go_cut [48] (fun v48 wc => ∃ (kq : Nat) (x48_5 : Bool), v48 = .bool x48_5 ∧ Aside0 (stopgatelaw02_BandWidens.j0 kq a1.toNat a2.toNat t127 t128 t129 t130 t131 t132 x48_5 = some r) ∧ Aside0 (kq ≤ k) ∧ Aside0 (Below w.heap.size w wc))
 case first =>
  have H := HC6.out
  clear HC6
  replace H := Option.bind_eq_some_iff.mp H
  obtain ⟨t133, A90, H⟩ := H
  replace H : (if t133 = true then (if t129 = true then (stopgatelaw02_BandWidens.j0 k a1.toNat a2.toNat t127 t128 t129 t130 t131 t132 (!t132)) else (stopgatelaw02_BandWidens.j0 k a1.toNat a2.toNat t127 t128 t129 t130 t131 t132 true)) else (stopgatelaw02_BandWidens.j0 k a1.toNat a2.toNat t127 t128 t129 t130 t131 t132 true)) = some r := H
  have A9 := Aside0.mk A90
  clear A90
  by_cases c10 : t133 = true
  ·subst c10
   have H1 : (if t129 = true then (stopgatelaw02_BandWidens.j0 k a1.toNat a2.toNat t127 t128 t129 t130 t131 t132 (!t132)) else (stopgatelaw02_BandWidens.j0 k a1.toNat a2.toNat t127 t128 t129 t130 t131 t132 true)) = some r := by rw [if_pos rfl] at H; exact H
   clear H
   have H := H1
   clear H1
   by_cases c11 : t129 = true
   ·subst c11
    have H1 : (stopgatelaw02_BandWidens.j0 k a1.toNat a2.toNat t127 t128 true t130 t131 t132 (!t132)) = some r := by rw [if_pos rfl] at H; exact H
    clear H
    have H := H1
    clear H1
    have H' := Aside0.mk H
    clear H
    go_wp2_with (first | ((with_reducible refine gate_callee (f := 35) rfl ?_); refine goesL_ (some 39) rfl rfl Try.func35 (by kernel_rfl) rfl #[] rfl (by (try simp only [List.map_toArray, List.map_cons, List.map_nil]); first | done | rfl | (simp only [List.length_drop, List.length_take]; rfl)) ?_; (with_reducible refine (stopgatelaw02_told.calls  true _ A9.out).mono ?_); rintro e w12 ⟨rfl, hb⟩; refine ⟨_, rfl, ?_⟩; have n0_ := Aside0.mk (below_step (by repeat (first | (with_reducible first | exact HB.out | apply below_alloc | apply pw_below_drewN | apply below_drew1) | exact HB.out)) hb); clear HB; have HB := n0_; clear n0_; (try clear hb); (try clear hb2); (try clear hk); (try clear hi)))
    go_meet
    case rel => exact ⟨_, (!t132), (by first | rfl | (simp; done) | (simp [*]; done)), H', ⟨by first | omega | exact Nat.le_refl _⟩, ⟨by repeat (first | (with_reducible first | exact HB.out | apply below_alloc | apply pw_below_drewN | apply below_drew1) | exact HB.out)⟩⟩
   ·replace c11 := Bool.eq_false_iff.mpr c11
    subst c11
    have H1 : (stopgatelaw02_BandWidens.j0 k a1.toNat a2.toNat t127 t128 false t130 t131 t132 true) = some r := by rw [if_neg (show ¬ (false = true) by decide)] at H; exact H
    clear H
    have H := H1
    clear H1
    have H' := Aside0.mk H
    clear H
    go_wp2_with (first | ((with_reducible refine gate_callee (f := 35) rfl ?_); refine goesL_ (some 39) rfl rfl Try.func35 (by kernel_rfl) rfl #[] rfl (by (try simp only [List.map_toArray, List.map_cons, List.map_nil]); first | done | rfl | (simp only [List.length_drop, List.length_take]; rfl)) ?_; (with_reducible refine (stopgatelaw02_told.calls  true _ A9.out).mono ?_); rintro e w13 ⟨rfl, hb⟩; refine ⟨_, rfl, ?_⟩; have n0_ := Aside0.mk (below_step (by repeat (first | (with_reducible first | exact HB.out | apply below_alloc | apply pw_below_drewN | apply below_drew1) | exact HB.out)) hb); clear HB; have HB := n0_; clear n0_; (try clear hb); (try clear hb2); (try clear hk); (try clear hi)))
    go_meet
    case rel => exact ⟨_, (true), (by first | rfl | (simp; done) | (simp [*]; done)), H', ⟨by first | omega | exact Nat.le_refl _⟩, ⟨by repeat (first | (with_reducible first | exact HB.out | apply below_alloc | apply pw_below_drewN | apply below_drew1) | exact HB.out)⟩⟩
  ·replace c10 := Bool.eq_false_iff.mpr c10
   subst c10
   have H1 : (stopgatelaw02_BandWidens.j0 k a1.toNat a2.toNat t127 t128 t129 t130 t131 t132 true) = some r := by rw [if_neg (show ¬ (false = true) by decide)] at H; exact H
   clear H
   have H := H1
   clear H1
   have H' := Aside0.mk H
   clear H
   go_wp2_with (first | ((with_reducible refine gate_callee (f := 35) rfl ?_); refine goesL_ (some 39) rfl rfl Try.func35 (by kernel_rfl) rfl #[] rfl (by (try simp only [List.map_toArray, List.map_cons, List.map_nil]); first | done | rfl | (simp only [List.length_drop, List.length_take]; rfl)) ?_; (with_reducible refine (stopgatelaw02_told.calls  false _ A9.out).mono ?_); rintro e w14 ⟨rfl, hb⟩; refine ⟨_, rfl, ?_⟩; have n0_ := Aside0.mk (below_step (by repeat (first | (with_reducible first | exact HB.out | apply below_alloc | apply pw_below_drewN | apply below_drew1) | exact HB.out)) hb); clear HB; have HB := n0_; clear n0_; (try clear hb); (try clear hb2); (try clear hk); (try clear hi)))
   go_meet
   case rel => exact ⟨_, (true), (by first | rfl | (simp; done) | (simp [*]; done)), H', ⟨by first | omega | exact Nat.le_refl _⟩, ⟨by repeat (first | (with_reducible first | exact HB.out | apply below_alloc | apply pw_below_drewN | apply below_drew1) | exact HB.out)⟩⟩
 case rest =>
  clear HC6
  try clear c1
  try clear p2
  try clear c3
  try clear p6
  try clear c8
  try clear c10
  try clear c11
  obtain ⟨kq, x48_5, rfl, HA, HJ5, HB⟩ := hcut
  cases kq with
  | zero => exact absurd HA.out (by simp [stopgatelaw02_BandWidens.j0])
  | succ kj5 =>
   have H := HA.out
   clear HA
   simp only [stopgatelaw02_BandWidens.j0] at H
   by_cases c15 : x48_5 = true
   ·subst c15
    have H1 : ((stopgatelaw02_told.f).bind fun t134 => (if t134 = true then ((stopgateref02_Right.f a1.toNat).bind fun t135 => (if (t129 == t135) = true then ((stopgateref02_Right.f a2.toNat).bind fun t136 => (some (t132 == t136))) else (none))) else (none))) = some r := by rw [if_pos rfl] at H; exact H
    clear H
    have H := H1
    clear H1
    replace H := Option.bind_eq_some_iff.mp H
    obtain ⟨t134, A160, H⟩ := H
    replace H : (if t134 = true then ((stopgateref02_Right.f a1.toNat).bind fun t135 => (if (t129 == t135) = true then ((stopgateref02_Right.f a2.toNat).bind fun t136 => (some (t132 == t136))) else (none))) else (none)) = some r := H
    have A16 := Aside0.mk A160
    clear A160
    by_cases c17 : t134 = true
    ·subst c17
     have H1 : ((stopgateref02_Right.f a1.toNat).bind fun t135 => (if (t129 == t135) = true then ((stopgateref02_Right.f a2.toNat).bind fun t136 => (some (t132 == t136))) else (none))) = some r := by rw [if_pos rfl] at H; exact H
     clear H
     have H := H1
     clear H1
     replace H := Option.bind_eq_some_iff.mp H
     obtain ⟨t135, A180, H⟩ := H
     replace H : (if (t129 == t135) = true then ((stopgateref02_Right.f a2.toNat).bind fun t136 => (some (t132 == t136))) else (none)) = some r := H
     have A18 := Aside0.mk A180
     clear A180
     by_cases c19 : (t129 == t135) = true
     ·rw [if_pos c19] at H
      have c19b0 : (t129 == t135) = true := c19
      (try (have c19b1 : decide (t129 = t135) = true := by simpa using c19))
      (try (have c19b2 : (t129 == t135) = true := by simpa using c19))
      clear c19
      replace H := Option.bind_eq_some_iff.mp H
      obtain ⟨t136, A200, H⟩ := H
      replace H : (some (t132 == t136)) = some r := H
      have A20 := Aside0.mk A200
      clear A200
      obtain rfl := Option.some.inj H
      go_wp2_with (first | ((with_reducible refine gate_callee (f := 35) rfl ?_); refine goesL_ (some 49) rfl rfl Try.func35 (by kernel_rfl) rfl #[] rfl (by (try simp only [List.map_toArray, List.map_cons, List.map_nil]); first | done | rfl | (simp only [List.length_drop, List.length_take]; rfl)) ?_; (with_reducible refine (stopgatelaw02_told.calls  true _ A16.out).mono ?_); rintro e w21 ⟨rfl, hb⟩; refine ⟨_, rfl, ?_⟩; have n0_ := Aside0.mk (below_step (by repeat (first | (with_reducible first | exact HB.out | apply below_alloc | apply pw_below_drewN | apply below_drew1) | exact HB.out)) hb); clear HB; have HB := n0_; clear n0_; (try clear hb); (try clear hb2); (try clear hk); (try clear hi)) | (go_at_call 36; (with_reducible refine (stopgateref02_Right.calls a1.toNat t135 _ A18.out).mono ?_); rintro e w' ⟨rfl, ⟨nd, rfl⟩⟩) | (go_at_call 36; (with_reducible refine (stopgateref02_Right.calls a2.toNat t136 _ A20.out).mono ?_); rintro e w' ⟨rfl, ⟨nd, rfl⟩⟩))
      go_ret
      exact ⟨by first | rfl | (simp [errW_none, errW_some] <;> rfl) | (simp [*, errW_none, errW_some] <;> rfl), by repeat (first | (with_reducible first | exact HB.out | apply below_alloc | apply pw_below_drewN | apply below_drew1) | exact HB.out)⟩
     ·rw [if_neg c19] at H
      exact absurd H (by simp)
    ·replace c17 := Bool.eq_false_iff.mpr c17
     subst c17
     have H1 : (none) = some r := by rw [if_neg (show ¬ (false = true) by decide)] at H; exact H
     clear H
     have H := H1
     clear H1
     exact absurd H (by simp)
   ·replace c15 := Bool.eq_false_iff.mpr c15
    subst c15
    have H1 : (if (FloatKind.f64.format.order a1.toNat a2.toNat == some .gt) = true then (if t127 ≤ t130 then (some (decide (t128 ≥ t131))) else (none)) else (if t130 ≤ t127 then (some (decide (t131 ≥ t128))) else (none))) = some r := by rw [if_neg (show ¬ (false = true) by decide)] at H; exact H
    clear H
    have H := H1
    clear H1
    by_cases c22 : (FloatKind.f64.format.order a1.toNat a2.toNat == some .gt) = true
    ·rw [if_pos c22] at H
     have c22b0 : (FloatKind.f64.format.order a1.toNat a2.toNat == some .gt) = true := c22
     (try (have c22b1 : decide (FloatKind.f64.format.order a1.toNat a2.toNat = some .gt) = true := by simpa using c22))
     (try (have c22b2 : (FloatKind.f64.format.order a1.toNat a2.toNat == some .gt) = true := by simpa using c22))
     clear c22
     by_cases c23 : t127 ≤ t130
     ·rw [if_pos c23] at H
      have c23b0 : decide (t127 ≤ t130) = true := decide_eq_true c23
      clear c23
      obtain rfl := Option.some.inj H
      go_wp2
      go_ret
      exact ⟨by first | rfl | (simp [errW_none, errW_some] <;> rfl) | (simp [*, errW_none, errW_some] <;> rfl), by repeat (first | (with_reducible first | exact HB.out | apply below_alloc | apply pw_below_drewN | apply below_drew1) | exact HB.out)⟩
     ·rw [if_neg c23] at H
      exact absurd H (by simp)
    ·rw [if_neg c22] at H
     have c22b0 : (FloatKind.f64.format.order a1.toNat a2.toNat == some .gt) = false := by simpa using c22
     (try (have c22b1 : decide (FloatKind.f64.format.order a1.toNat a2.toNat = some .gt) = false := by simpa using c22))
     (try (have c22b2 : (FloatKind.f64.format.order a1.toNat a2.toNat == some .gt) = false := by simpa using c22))
     (try (have c22b3 : ¬ (FloatKind.f64.format.order a1.toNat a2.toNat = some .gt) := by simpa using c22))
     clear c22
     by_cases c24 : t130 ≤ t127
     ·rw [if_pos c24] at H
      have c24b0 : decide (t130 ≤ t127) = true := decide_eq_true c24
      clear c24
      obtain rfl := Option.some.inj H
      go_wp2
      go_ret
      exact ⟨by first | rfl | (simp [errW_none, errW_some] <;> rfl) | (simp [*, errW_none, errW_some] <;> rfl), by repeat (first | (with_reducible first | exact HB.out | apply below_alloc | apply pw_below_drewN | apply below_drew1) | exact HB.out)⟩
     ·rw [if_neg c24] at H
      exact absurd H (by simp)

/-- THE ONE PURE STATEMENT of stopgatelaw02_BandWidens: yours. -/
def stopgatelaw02_BandWidens.Pure : Prop := ∀ (a0 : Int) (a1 : Int) (a2 : Int), (Lit.int .i64 a0).wf = true → (Lit.int .u64 a1).wf = true → (Lit.int .u64 a2).wf = true → ∃ k, stopgatelaw02_BandWidens.f k a0 a1 a2 = some true
theorem stopgatelaw02_BandWidens.walk (P : stopgatelaw02_BandWidens.Pure) (a0 : Int) (a1 : Int) (a2 : Int) (w : World) (h_0 : (Lit.int .i64 a0).wf = true) (h_1 : (Lit.int .u64 a1).wf = true) (h_2 : (Lit.int .u64 a2).wf = true) :
  Calls Try.prog 8 #[.int .i64 a0, .int .u64 a1, .int .u64 a2] w fun e w' => e = .returned (.bool true) ∧ Below w.heap.size w w' := by
 obtain ⟨k, h⟩ := P a0 a1 a2 h_0 h_1 h_2
 refine (stopgatelaw02_BandWidens.calls k a0 a1 a2 true w h).mono ?_
 rintro e w' ⟨rfl, hd⟩
 exact ⟨rfl, hd⟩

end Go.Proofs.Ytnodcekkbbmfnaa.QBandWidens
