/- Printed by wip/gen/myprint.py, a program of this session, for this claim: functions of the program as Lean functions, each with a proof that the Go code comes to its answers. -/
import Derived.Test.YtgikjgekdeaneaaQRulesLooksx0
import Derived.Test.YtgikjgekdeaneaaQRulesLooksx5
import Derived.Test.YtgikjgekdeaneaaQRulesLooksx6
import Derived.Test.YtgikjgekdeaneaaQRulesLooksx7
namespace Go.Proofs.Ytgikjgekdeaneaa.QRulesLooks
open Go.RowKit Go.Proofs.YtgikjgekdeaneaaW.PrintWords Go.Proofs.YtgikjgekdeaneaaW.PrintLast Go.Proofs.YtgikjgekdeaneaaW.PrintMore
attribute [local go_sem] max2_int min2_int max_two min_two max_three min_three max_four min_four   -- for this text's walks alone
set_option linter.unusedVariables false
set_option linter.unusedSimpArgs false

attribute [local go_sem] run_store_flt
/-! ### math_trunc: function 135 -/
def math_trunc.f (a0 : Nat) : Option (Nat) := (math_Abs.f a0).bind fun t235 => (if (FloatKind.f64.format.order t235 4607182418800017408 == some .lt) = true then ((math_Copysign.f 0 a0).bind fun t236 => (some t236)) else (if (IntKind.u64.wrap ((Go.bits .and .u64 ((a0 : Int) / 4503599627370496) 2047) - 1023)) < 52 then (if 0 ≤ (IntKind.u64.wrap (52 - (IntKind.u64.wrap ((Go.bits .and .u64 ((a0 : Int) / 4503599627370496) 2047) - 1023)))) then (some ((Go.bits .andNot .u64 (a0 : Int) (IntKind.u64.wrap ((shl .u64 1 (IntKind.u64.wrap (52 - (IntKind.u64.wrap ((Go.bits .and .u64 ((a0 : Int) / 4503599627370496) 2047) - 1023))))) - 1))).toNat)) else (none)) else (some ((a0 : Int).toNat))))
set_option maxHeartbeats 8000000 in
set_option maxRecDepth 100000 in
theorem math_trunc.calls (a0 : Nat) (r : Nat) (w : World) (h : math_trunc.f a0 = some r) :
  Calls Try.prog 135 #[.float .f64 a0] w fun e w' => e = .returned (.float .f64 r) ∧ Drawn0 w w' := by
 have hx130 : ∀ (n_ : Nat) (w_ : World), (callFunc 130 #[.float .f64 n_]).run Try.prog w_ = .ok (.value (.int .u64 n_)) w_ := fun n_ w_ => (run_callFunc_extern (e := Extern.MathFloatBits.float64bits) Try.func130 (by kernel_rfl) (by kernel_rfl) (by kernel_rfl) (by kernel_rfl) _ w_).trans rfl
 have hx57 : ∀ (n_ : Int) (w_ : World), (callFunc 57 #[.int .u64 n_]).run Try.prog w_ = .ok (.value (.float .f64 n_.toNat)) w_ := fun n_ w_ => (run_callFunc_extern (e := Extern.MathFloatBits.float64frombits) Try.func57 (by kernel_rfl) (by kernel_rfl) (by kernel_rfl) (by kernel_rfl) _ w_).trans rfl
 have H : ((math_Abs.f a0).bind fun t235 => (if (FloatKind.f64.format.order t235 4607182418800017408 == some .lt) = true then ((math_Copysign.f 0 a0).bind fun t236 => (some t236)) else (if (IntKind.u64.wrap ((Go.bits .and .u64 ((a0 : Int) / 4503599627370496) 2047) - 1023)) < 52 then (if 0 ≤ (IntKind.u64.wrap (52 - (IntKind.u64.wrap ((Go.bits .and .u64 ((a0 : Int) / 4503599627370496) 2047) - 1023)))) then (some ((Go.bits .andNot .u64 (a0 : Int) (IntKind.u64.wrap ((shl .u64 1 (IntKind.u64.wrap (52 - (IntKind.u64.wrap ((Go.bits .and .u64 ((a0 : Int) / 4503599627370496) 2047) - 1023))))) - 1))).toNat)) else (none)) else (some ((a0 : Int).toNat))))) = some r := h
 clear h
 replace H := Option.bind_eq_some_iff.mp H
 obtain ⟨t235, A20, H⟩ := H
 replace H : (if (FloatKind.f64.format.order t235 4607182418800017408 == some .lt) = true then ((math_Copysign.f 0 a0).bind fun t236 => (some t236)) else (if (IntKind.u64.wrap ((Go.bits .and .u64 ((a0 : Int) / 4503599627370496) 2047) - 1023)) < 52 then (if 0 ≤ (IntKind.u64.wrap (52 - (IntKind.u64.wrap ((Go.bits .and .u64 ((a0 : Int) / 4503599627370496) 2047) - 1023)))) then (some ((Go.bits .andNot .u64 (a0 : Int) (IntKind.u64.wrap ((shl .u64 1 (IntKind.u64.wrap (52 - (IntKind.u64.wrap ((Go.bits .and .u64 ((a0 : Int) / 4503599627370496) 2047) - 1023))))) - 1))).toNat)) else (none)) else (some ((a0 : Int).toNat)))) = some r := H
 have A2 := A0s.mk A20
 clear A20
 by_cases c3 : (FloatKind.f64.format.order t235 4607182418800017408 == some .lt) = true
 ·rw [if_pos c3] at H
  have c3b0 : (FloatKind.f64.format.order t235 4607182418800017408 == some .lt) = true := c3
  (try (have c3b1 : decide (FloatKind.f64.format.order t235 4607182418800017408 = some .lt) = true := by simpa using c3))
  (try (have c3b2 : (FloatKind.f64.format.order t235 4607182418800017408 == some .lt) = true := by simpa using c3))
  clear c3
  replace H := Option.bind_eq_some_iff.mp H
  obtain ⟨t236, A40, H⟩ := H
  replace H : (some t236) = some r := H
  have A4 := A0s.mk A40
  clear A40
  obtain rfl := Option.some.inj H
  go_enter Try.func135, Try.ntmps135
  go_wp2_with (first | ((with_reducible refine gC (f := 127) rfl ?_); refine gL (some 6) rfl rfl Try.func127 (by kernel_rfl) rfl #[.float .f64 a0] rfl (by (try simp only [List.map_toArray, List.map_cons, List.map_nil]); first | done | rfl | (simp only [List.length_drop, List.length_take]; rfl)) ?_; (with_reducible refine (math_Abs.calls a0 t235 _ A2.out).mono ?_); rintro e w' ⟨rfl, ⟨nd, rfl⟩⟩; refine ⟨_, rfl, ?_⟩) | ((with_reducible refine gC (f := 133) rfl ?_); refine gL (some 9) rfl rfl Try.func133 (by kernel_rfl) rfl #[.float .f64 0, .float .f64 a0] rfl (by (try simp only [List.map_toArray, List.map_cons, List.map_nil]); first | done | rfl | (simp only [List.length_drop, List.length_take]; rfl)) ?_; (with_reducible refine (math_Copysign.calls 0 a0 t236 _ A4.out).mono ?_); rintro e w' ⟨rfl, ⟨nd, rfl⟩⟩; refine ⟨_, rfl, ?_⟩))
  go_ret
  exact ⟨by first | rfl | (simp; done) | (simp [*]; done), by repeat (first | exact Drawn0.refl _ | apply Drawn0.step)⟩
 ·rw [if_neg c3] at H
  have c3b0 : (FloatKind.f64.format.order t235 4607182418800017408 == some .lt) = false := by simpa using c3
  (try (have c3b1 : decide (FloatKind.f64.format.order t235 4607182418800017408 = some .lt) = false := by simpa using c3))
  (try (have c3b2 : (FloatKind.f64.format.order t235 4607182418800017408 == some .lt) = false := by simpa using c3))
  (try (have c3b3 : ¬ (FloatKind.f64.format.order t235 4607182418800017408 = some .lt) := by simpa using c3))
  clear c3
  by_cases c5 : (IntKind.u64.wrap ((Go.bits .and .u64 ((a0 : Int) / 4503599627370496) 2047) - 1023)) < 52
  ·rw [if_pos c5] at H
   have c5b0 : decide ((IntKind.u64.wrap ((Go.bits .and .u64 ((a0 : Int) / 4503599627370496) 2047) - 1023)) < 52) = true := decide_eq_true c5
   clear c5
   obtain ⟨ji6, hji6⟩ : ∃ j_ : Int, (IntKind.u64.wrap (52 - (IntKind.u64.wrap ((Go.bits .and .u64 ((a0 : Int) / 4503599627370496) 2047) - 1023)))) = j_ := ⟨_, rfl⟩
   replace H : (if 0 ≤ (ji6) then (some ((Go.bits .andNot .u64 (a0 : Int) (IntKind.u64.wrap ((shl .u64 1 (ji6)) - 1))).toNat)) else (none)) = some r := by first | (rw [hji6] at H; exact H) | (simp only [hji6] at H ⊢; exact H)
   (try rw [hji6] at A2)
   by_cases c7 : 0 ≤ (ji6)
   ·rw [if_pos c7] at H
    have c7b0 := eq_true c7
    have c7b1 : decide (0 ≤ (ji6)) = true := decide_eq_true c7
    clear c7
    obtain ⟨ji8, hji8⟩ : ∃ j_ : Int, (shl .u64 1 (ji6)) = j_ := ⟨_, rfl⟩
    replace H : (some ((Go.bits .andNot .u64 (a0 : Int) (IntKind.u64.wrap ((ji8) - 1))).toNat)) = some r := by first | (rw [hji8] at H; exact H) | (simp only [hji8] at H ⊢; exact H)
    (try rw [hji8] at A2)
    have hji8_ : (IntKind.u64.wrap (1 * 2 ^ min (ji6).toNat 64)) = ji8 := hji8
    have hji8z : (ji6) ≤ 64 → (IntKind.u64.wrap (1 * 2 ^ (ji6).toNat)) = ji8 := shl_small hji8
    have hji8u : (IntKind.u64.wrap (2 ^ min (ji6).toNat 64)) = ji8 := by have h_ := hji8_; rw [Int.one_mul] at h_; exact h_
    have hji8v : (ji6) ≤ 64 → (IntKind.u64.wrap (2 ^ (ji6).toNat)) = ji8 := fun hle_ => by have h_ := hji8z hle_; rw [Int.one_mul] at h_; exact h_
    obtain rfl := Option.some.inj H
    go_enter Try.func135, Try.ntmps135
    go_wp2_with (first | ((with_reducible refine gC (f := 127) rfl ?_); refine gL (some 6) rfl rfl Try.func127 (by kernel_rfl) rfl #[.float .f64 a0] rfl (by (try simp only [List.map_toArray, List.map_cons, List.map_nil]); first | done | rfl | (simp only [List.length_drop, List.length_take]; rfl)) ?_; (with_reducible refine (math_Abs.calls a0 t235 _ A2.out).mono ?_); rintro e w' ⟨rfl, ⟨nd, rfl⟩⟩; refine ⟨_, rfl, ?_⟩))
    go_ret
    exact ⟨by first | rfl | (simp; done) | (simp only [← hji6, ← hji8] <;> (first | rfl | simp)) | (simp [*]; done), by repeat (first | exact Drawn0.refl _ | apply Drawn0.step)⟩
   ·rw [if_neg c7] at H
    exact absurd H (by simp)
  ·rw [if_neg c5] at H
   have c5b0 : decide ((IntKind.u64.wrap ((Go.bits .and .u64 ((a0 : Int) / 4503599627370496) 2047) - 1023)) < 52) = false := decide_eq_false c5
   clear c5
   obtain rfl := Option.some.inj H
   go_enter Try.func135, Try.ntmps135
   go_wp2_with (first | ((with_reducible refine gC (f := 127) rfl ?_); refine gL (some 6) rfl rfl Try.func127 (by kernel_rfl) rfl #[.float .f64 a0] rfl (by (try simp only [List.map_toArray, List.map_cons, List.map_nil]); first | done | rfl | (simp only [List.length_drop, List.length_take]; rfl)) ?_; (with_reducible refine (math_Abs.calls a0 t235 _ A2.out).mono ?_); rintro e w' ⟨rfl, ⟨nd, rfl⟩⟩; refine ⟨_, rfl, ?_⟩))
   go_ret
   exact ⟨by first | rfl | (simp; done) | (simp [*]; done), by repeat (first | exact Drawn0.refl _ | apply Drawn0.step)⟩

-- NOT PRINTED: function 132 (math_Trunc)

-- NOT PRINTED: function 131 (math_Modf)

-- NOT PRINTED: function 129 (math_floor)

/-! ### math_Floor: function 120 -/
def math_Floor.f (a0 : Nat) : Option (Nat) := if notNan a0 = true then (some (flr a0)) else (none)
set_option maxHeartbeats 8000000 in
set_option maxRecDepth 100000 in
theorem math_Floor.calls (a0 : Nat) (r : Nat) (w : World) (h : math_Floor.f a0 = some r) :
  Calls Try.prog 120 #[.float .f64 a0] w fun e w' => e = .returned (.float .f64 r) ∧ Drawn0 w w' := by
 have hx128 : ∀ (n_ : Nat) (w_ : World), notNan n_ = true → (callFunc 128 #[.float .f64 n_]).run Try.prog w_ = .ok (.value (.float .f64 (flr n_))) w_ := fun n_ w_ hn_ => (run_callFunc_extern (e := Extern.MathFloor.toIntegral "math.archFloor" .down) Try.func128 (by kernel_rfl) (by kernel_rfl) (by kernel_rfl) (by kernel_rfl) _ w_).trans (by rw [run_flr n_ w_ hn_]; rfl)
 have H : (if notNan a0 = true then (some (flr a0)) else (none)) = some r := h
 clear h
 by_cases c2 : notNan a0 = true
 ·rw [if_pos c2] at H
  have c2b0 : notNan a0 = true := c2
  clear c2
  obtain rfl := Option.some.inj H
  go_enter Try.func120, Try.ntmps120
  go_wp2
  go_ret
  exact ⟨by first | rfl | (simp; done) | (simp [*]; done), by repeat (first | exact Drawn0.refl _ | apply Drawn0.step)⟩
 ·rw [if_neg c2] at H
  exact absurd H (by simp)

/-! ### band_far: function 98 -/
def band_far.f (a0 : Int) (a1 : Nat) : Option (Int) := if (FloatKind.f64.format.mul (FloatKind.f64.nearest a0) a1).isSome = true then ((math_IsInf.f ((FloatKind.f64.format.mul (FloatKind.f64.nearest a0) a1).getD 0) 1).bind fun t239 => (if t239 = true then (some 1099511627776) else (if (FloatKind.f64.format.order ((FloatKind.f64.format.mul (FloatKind.f64.nearest a0) a1).getD 0) 4787326403894837248 == some .gt || FloatKind.f64.format.order ((FloatKind.f64.format.mul (FloatKind.f64.nearest a0) a1).getD 0) 4787326403894837248 == some .eq) = true then (some 1099511627776) else ((math_Floor.f ((FloatKind.f64.format.mul (FloatKind.f64.nearest a0) a1).getD 0)).bind fun t240 => (if (floatToIntVal .f64 t240 .i64).isSome = true then (some ((floatToIntVal .f64 t240 .i64).getD 0)) else (none)))))) else (none)
set_option maxHeartbeats 8000000 in
set_option maxRecDepth 100000 in
theorem band_far.calls (a0 : Int) (a1 : Nat) (r : Int) (w : World) (h : band_far.f a0 a1 = some r) :
  Calls Try.prog 98 #[.int .i64 a0, .float .f64 a1] w fun e w' => e = .returned (.int .i64 r) ∧ Drawn0 w w' := by
 have hcv2_84 : ∀ (n_ : Int) (w_ : World), (convert 2 84 (.int .i64 n_)).run Try.prog w_ = .ok (.float .f64 (FloatKind.f64.nearest n_)) w_ := fun n_ w_ => by simp [convert, run_underlying Try.underlying2, run_underlying Try.underlying84, Conv.intToFloat]
 have hmul : ∀ (t_ : TypeId) (x_ y_ : Nat) (w_ : World), (FloatKind.f64.format.mul x_ y_).isSome = true → (binOp .mul t_ (.float .f64 x_) (.float .f64 y_)).run Try.prog w_ = .ok (.float .f64 ((FloatKind.f64.format.mul x_ y_).getD 0)) w_ := fun t_ x_ y_ w_ hn_ => run_fmul hn_
 have hcv84_2 : ∀ (n_ : Nat) (w_ : World), (floatToIntVal .f64 n_ .i64).isSome = true → (convert 84 2 (.float .f64 n_)).run Try.prog w_ = .ok (.int .i64 ((floatToIntVal .f64 n_ .i64).getD 0)) w_ := fun n_ w_ hn_ => run_cfi (by rw [Try.underlying84]; rfl) Try.underlying2 hn_
 have H : (if (FloatKind.f64.format.mul (FloatKind.f64.nearest a0) a1).isSome = true then ((math_IsInf.f ((FloatKind.f64.format.mul (FloatKind.f64.nearest a0) a1).getD 0) 1).bind fun t239 => (if t239 = true then (some 1099511627776) else (if (FloatKind.f64.format.order ((FloatKind.f64.format.mul (FloatKind.f64.nearest a0) a1).getD 0) 4787326403894837248 == some .gt || FloatKind.f64.format.order ((FloatKind.f64.format.mul (FloatKind.f64.nearest a0) a1).getD 0) 4787326403894837248 == some .eq) = true then (some 1099511627776) else ((math_Floor.f ((FloatKind.f64.format.mul (FloatKind.f64.nearest a0) a1).getD 0)).bind fun t240 => (if (floatToIntVal .f64 t240 .i64).isSome = true then (some ((floatToIntVal .f64 t240 .i64).getD 0)) else (none)))))) else (none)) = some r := h
 clear h
 by_cases c3 : (FloatKind.f64.format.mul (FloatKind.f64.nearest a0) a1).isSome = true
 ·rw [if_pos c3] at H
  have c3b0 : (FloatKind.f64.format.mul (FloatKind.f64.nearest a0) a1).isSome = true := c3
  clear c3
  replace H := Option.bind_eq_some_iff.mp H
  obtain ⟨t239, A40, H⟩ := H
  replace H : (if t239 = true then (some 1099511627776) else (if (FloatKind.f64.format.order ((FloatKind.f64.format.mul (FloatKind.f64.nearest a0) a1).getD 0) 4787326403894837248 == some .gt || FloatKind.f64.format.order ((FloatKind.f64.format.mul (FloatKind.f64.nearest a0) a1).getD 0) 4787326403894837248 == some .eq) = true then (some 1099511627776) else ((math_Floor.f ((FloatKind.f64.format.mul (FloatKind.f64.nearest a0) a1).getD 0)).bind fun t240 => (if (floatToIntVal .f64 t240 .i64).isSome = true then (some ((floatToIntVal .f64 t240 .i64).getD 0)) else (none))))) = some r := H
  have A4 := A0s.mk A40
  clear A40
  by_cases c5 : t239 = true
  ·subst c5
   have H1 : (some 1099511627776) = some r := by rw [if_pos rfl] at H; exact H
   clear H
   have H := H1
   clear H1
   obtain rfl := Option.some.inj H
   go_enter Try.func98, Try.ntmps98
   go_wp2_with (first | ((with_reducible refine gC (f := 119) rfl ?_); refine gL (some 11) rfl rfl Try.func119 (by kernel_rfl) rfl #[.float .f64 ((FloatKind.f64.format.mul (FloatKind.f64.nearest a0) a1).getD 0), .int .i64 1] rfl (by (try simp only [List.map_toArray, List.map_cons, List.map_nil]); first | done | rfl | (simp only [List.length_drop, List.length_take]; rfl)) ?_; (with_reducible refine (math_IsInf.calls ((FloatKind.f64.format.mul (FloatKind.f64.nearest a0) a1).getD 0) 1 true _ A4.out).mono ?_); rintro e w' ⟨rfl, ⟨nd, rfl⟩⟩; refine ⟨_, rfl, ?_⟩))
   go_ret
   exact ⟨by first | rfl | (simp; done) | (simp [*]; done), by repeat (first | exact Drawn0.refl _ | apply Drawn0.step)⟩
  ·replace c5 := Bool.eq_false_iff.mpr c5
   subst c5
   have H1 : (if (FloatKind.f64.format.order ((FloatKind.f64.format.mul (FloatKind.f64.nearest a0) a1).getD 0) 4787326403894837248 == some .gt || FloatKind.f64.format.order ((FloatKind.f64.format.mul (FloatKind.f64.nearest a0) a1).getD 0) 4787326403894837248 == some .eq) = true then (some 1099511627776) else ((math_Floor.f ((FloatKind.f64.format.mul (FloatKind.f64.nearest a0) a1).getD 0)).bind fun t240 => (if (floatToIntVal .f64 t240 .i64).isSome = true then (some ((floatToIntVal .f64 t240 .i64).getD 0)) else (none)))) = some r := by rw [if_neg (show ¬ (false = true) by decide)] at H; exact H
   clear H
   have H := H1
   clear H1
   by_cases c6 : (FloatKind.f64.format.order ((FloatKind.f64.format.mul (FloatKind.f64.nearest a0) a1).getD 0) 4787326403894837248 == some .gt || FloatKind.f64.format.order ((FloatKind.f64.format.mul (FloatKind.f64.nearest a0) a1).getD 0) 4787326403894837248 == some .eq) = true
   ·rw [if_pos c6] at H
    have c6b0 : (FloatKind.f64.format.order ((FloatKind.f64.format.mul (FloatKind.f64.nearest a0) a1).getD 0) 4787326403894837248 == some .gt || FloatKind.f64.format.order ((FloatKind.f64.format.mul (FloatKind.f64.nearest a0) a1).getD 0) 4787326403894837248 == some .eq) = true := c6
    (try (have c6b1 : decide (FloatKind.f64.format.order ((FloatKind.f64.format.mul (FloatKind.f64.nearest a0) a1).getD 0) 4787326403894837248 = some .gt || FloatKind.f64.format.order ((FloatKind.f64.format.mul (FloatKind.f64.nearest a0) a1).getD 0) 4787326403894837248 == some .eq) = true := by simpa using c6))
    (try (have c6b2 : (FloatKind.f64.format.order ((FloatKind.f64.format.mul (FloatKind.f64.nearest a0) a1).getD 0) 4787326403894837248 == some .gt || FloatKind.f64.format.order ((FloatKind.f64.format.mul (FloatKind.f64.nearest a0) a1).getD 0) 4787326403894837248 == some .eq) = true := by simpa using c6))
    clear c6
    obtain rfl := Option.some.inj H
    go_enter Try.func98, Try.ntmps98
    go_wp2_with (first | ((with_reducible refine gC (f := 119) rfl ?_); refine gL (some 11) rfl rfl Try.func119 (by kernel_rfl) rfl #[.float .f64 ((FloatKind.f64.format.mul (FloatKind.f64.nearest a0) a1).getD 0), .int .i64 1] rfl (by (try simp only [List.map_toArray, List.map_cons, List.map_nil]); first | done | rfl | (simp only [List.length_drop, List.length_take]; rfl)) ?_; (with_reducible refine (math_IsInf.calls ((FloatKind.f64.format.mul (FloatKind.f64.nearest a0) a1).getD 0) 1 false _ A4.out).mono ?_); rintro e w' ⟨rfl, ⟨nd, rfl⟩⟩; refine ⟨_, rfl, ?_⟩))
    go_ret
    exact ⟨by first | rfl | (simp; done) | (simp [*]; done), by repeat (first | exact Drawn0.refl _ | apply Drawn0.step)⟩
   ·rw [if_neg c6] at H
    have c6b0 : (FloatKind.f64.format.order ((FloatKind.f64.format.mul (FloatKind.f64.nearest a0) a1).getD 0) 4787326403894837248 == some .gt || FloatKind.f64.format.order ((FloatKind.f64.format.mul (FloatKind.f64.nearest a0) a1).getD 0) 4787326403894837248 == some .eq) = false := by simpa using c6
    (try (have c6b1 : decide (FloatKind.f64.format.order ((FloatKind.f64.format.mul (FloatKind.f64.nearest a0) a1).getD 0) 4787326403894837248 = some .gt || FloatKind.f64.format.order ((FloatKind.f64.format.mul (FloatKind.f64.nearest a0) a1).getD 0) 4787326403894837248 == some .eq) = false := by simpa using c6))
    (try (have c6b2 : (FloatKind.f64.format.order ((FloatKind.f64.format.mul (FloatKind.f64.nearest a0) a1).getD 0) 4787326403894837248 == some .gt || FloatKind.f64.format.order ((FloatKind.f64.format.mul (FloatKind.f64.nearest a0) a1).getD 0) 4787326403894837248 == some .eq) = false := by simpa using c6))
    (try (have c6b3 : ¬ (FloatKind.f64.format.order ((FloatKind.f64.format.mul (FloatKind.f64.nearest a0) a1).getD 0) 4787326403894837248 = some .gt || FloatKind.f64.format.order ((FloatKind.f64.format.mul (FloatKind.f64.nearest a0) a1).getD 0) 4787326403894837248 == some .eq) := by simpa using c6))
    clear c6
    replace H := Option.bind_eq_some_iff.mp H
    obtain ⟨t240, A70, H⟩ := H
    replace H : (if (floatToIntVal .f64 t240 .i64).isSome = true then (some ((floatToIntVal .f64 t240 .i64).getD 0)) else (none)) = some r := H
    have A7 := A0s.mk A70
    clear A70
    by_cases c8 : (floatToIntVal .f64 t240 .i64).isSome = true
    ·rw [if_pos c8] at H
     have c8b0 : (floatToIntVal .f64 t240 .i64).isSome = true := c8
     clear c8
     obtain rfl := Option.some.inj H
     go_enter Try.func98, Try.ntmps98
     go_wp2_with (first | ((with_reducible refine gC (f := 119) rfl ?_); refine gL (some 11) rfl rfl Try.func119 (by kernel_rfl) rfl #[.float .f64 ((FloatKind.f64.format.mul (FloatKind.f64.nearest a0) a1).getD 0), .int .i64 1] rfl (by (try simp only [List.map_toArray, List.map_cons, List.map_nil]); first | done | rfl | (simp only [List.length_drop, List.length_take]; rfl)) ?_; (with_reducible refine (math_IsInf.calls ((FloatKind.f64.format.mul (FloatKind.f64.nearest a0) a1).getD 0) 1 false _ A4.out).mono ?_); rintro e w' ⟨rfl, ⟨nd, rfl⟩⟩; refine ⟨_, rfl, ?_⟩) | ((with_reducible refine gC (f := 120) rfl ?_); refine gL (some 17) rfl rfl Try.func120 (by kernel_rfl) rfl #[.float .f64 ((FloatKind.f64.format.mul (FloatKind.f64.nearest a0) a1).getD 0)] rfl (by (try simp only [List.map_toArray, List.map_cons, List.map_nil]); first | done | rfl | (simp only [List.length_drop, List.length_take]; rfl)) ?_; (with_reducible refine (math_Floor.calls ((FloatKind.f64.format.mul (FloatKind.f64.nearest a0) a1).getD 0) t240 _ A7.out).mono ?_); rintro e w' ⟨rfl, ⟨nd, rfl⟩⟩; refine ⟨_, rfl, ?_⟩))
     go_ret
     exact ⟨by first | rfl | (simp; done) | (simp [*]; done), by repeat (first | exact Drawn0.refl _ | apply Drawn0.step)⟩
    ·rw [if_neg c8] at H
     exact absurd H (by simp)
 ·rw [if_neg c3] at H
  exact absurd H (by simp)

/-! ### band_Collar: function 58 -/
def band_Collar.f (a0 : Int) (a1 : Nat) : Option (Int × Int × Bool) := (band_Right.f a1).bind fun t241 => (if t241 = true then (if a0 < 1 then (some (0, 0, false)) else (if a0 > 1099511627776 then (some (0, 0, false)) else ((band_far.f a0 a1).bind fun t242 => (some (mx (wrap64 (a0 - t242)) 1, mn (wrap64 (a0 + t242)) 1099511627776, true))))) else (some (0, 0, false)))
set_option maxHeartbeats 8000000 in
set_option maxRecDepth 100000 in
theorem band_Collar.calls (a0 : Int) (a1 : Nat) (r1 : Int) (r2 : Int) (r3 : Bool) (w : World) (h : band_Collar.f a0 a1 = some (r1, r2, r3)) :
  Calls Try.prog 58 #[.int .i64 a0, .float .f64 a1] w fun e w' => e = .returned (.tuple #[.int .i64 r1, .int .i64 r2, .bool r3]) ∧ Below w.heap.size w w' := by
 have HB := A0s.mk (Below.refl w.heap.size w)
 have H : ((band_Right.f a1).bind fun t241 => (if t241 = true then (if a0 < 1 then (some (0, 0, false)) else (if a0 > 1099511627776 then (some (0, 0, false)) else ((band_far.f a0 a1).bind fun t242 => (some (mx (wrap64 (a0 - t242)) 1, mn (wrap64 (a0 + t242)) 1099511627776, true))))) else (some (0, 0, false)))) = some (r1, r2, r3) := h
 clear h
 replace H := Option.bind_eq_some_iff.mp H
 obtain ⟨t241, A30, H⟩ := H
 replace H : (if t241 = true then (if a0 < 1 then (some (0, 0, false)) else (if a0 > 1099511627776 then (some (0, 0, false)) else ((band_far.f a0 a1).bind fun t242 => (some (mx (wrap64 (a0 - t242)) 1, mn (wrap64 (a0 + t242)) 1099511627776, true))))) else (some (0, 0, false))) = some (r1, r2, r3) := H
 have A3 := A0s.mk A30
 clear A30
 by_cases c4 : t241 = true
 ·subst c4
  have H1 : (if a0 < 1 then (some (0, 0, false)) else (if a0 > 1099511627776 then (some (0, 0, false)) else ((band_far.f a0 a1).bind fun t242 => (some (mx (wrap64 (a0 - t242)) 1, mn (wrap64 (a0 + t242)) 1099511627776, true))))) = some (r1, r2, r3) := by rw [if_pos rfl] at H; exact H
  clear H
  have H := H1
  clear H1
  by_cases c5 : a0 < 1
  ·rw [if_pos c5] at H
   have c5b0 : decide (a0 < 1) = true := decide_eq_true c5
   clear c5
   simp only [Option.some.injEq, Prod.mk.injEq] at H
   obtain ⟨rfl, rfl, rfl⟩ := H
   go_enter Try.func58, Try.ntmps58
   go_wp2_with (first | ((with_reducible refine gC (f := 97) rfl ?_); refine gL (some 9) rfl rfl Try.func97 (by kernel_rfl) rfl #[.float .f64 a1] rfl (by (try simp only [List.map_toArray, List.map_cons, List.map_nil]); first | done | rfl | (simp only [List.length_drop, List.length_take]; rfl)) ?_; (with_reducible refine (band_Right.calls a1 true _ A3.out).mono ?_); rintro e w' ⟨rfl, ⟨nd, rfl⟩⟩; refine ⟨_, rfl, ?_⟩))
   go_ret3
   exact ⟨by first | rfl | (simp [errW_none, errW_some] <;> rfl) | (simp [*, errW_none, errW_some] <;> rfl), by repeat (first | (with_reducible first | exact HB.out | apply bA | apply bN | apply bD) | exact HB.out)⟩
  ·rw [if_neg c5] at H
   have c5b0 : decide (a0 < 1) = false := decide_eq_false c5
   clear c5
   by_cases c6 : a0 > 1099511627776
   ·rw [if_pos c6] at H
    have c6b0 : decide (1099511627776 < a0) = true := decide_eq_true c6
    clear c6
    simp only [Option.some.injEq, Prod.mk.injEq] at H
    obtain ⟨rfl, rfl, rfl⟩ := H
    go_enter Try.func58, Try.ntmps58
    go_wp2_with (first | ((with_reducible refine gC (f := 97) rfl ?_); refine gL (some 9) rfl rfl Try.func97 (by kernel_rfl) rfl #[.float .f64 a1] rfl (by (try simp only [List.map_toArray, List.map_cons, List.map_nil]); first | done | rfl | (simp only [List.length_drop, List.length_take]; rfl)) ?_; (with_reducible refine (band_Right.calls a1 true _ A3.out).mono ?_); rintro e w' ⟨rfl, ⟨nd, rfl⟩⟩; refine ⟨_, rfl, ?_⟩))
    go_ret3
    exact ⟨by first | rfl | (simp [errW_none, errW_some] <;> rfl) | (simp [*, errW_none, errW_some] <;> rfl), by repeat (first | (with_reducible first | exact HB.out | apply bA | apply bN | apply bD) | exact HB.out)⟩
   ·rw [if_neg c6] at H
    have c6b0 : decide (1099511627776 < a0) = false := decide_eq_false c6
    clear c6
    replace H := Option.bind_eq_some_iff.mp H
    obtain ⟨t242, A70, H⟩ := H
    replace H : (some (mx (wrap64 (a0 - t242)) 1, mn (wrap64 (a0 + t242)) 1099511627776, true)) = some (r1, r2, r3) := H
    have A7 := A0s.mk A70
    clear A70
    obtain ⟨ji8, hji8⟩ : ∃ j_ : Int, (mx (wrap64 (a0 - t242)) 1) = j_ := ⟨_, rfl⟩
    replace H : (some (ji8, mn (wrap64 (a0 + t242)) 1099511627776, true)) = some (r1, r2, r3) := by first | (rw [hji8] at H; exact H) | (simp only [hji8] at H ⊢; exact H)
    (try rw [hji8] at A3)
    (try rw [hji8] at A7)
    (try (have hji8l : 1 ≤ ji8 := by (rw [← hji8]; unfold mx; (repeat' split) <;> omega)))
    (try (have hji8m : 0 ≤ ji8 := by omega))
    have hji8_ : (if (wrap64 (a0 - t242)) < 1 then 1 else (wrap64 (a0 - t242))) = ji8 := hji8
    obtain ⟨ji9, hji9⟩ : ∃ j_ : Int, (mn (wrap64 (a0 + t242)) 1099511627776) = j_ := ⟨_, rfl⟩
    replace H : (some (ji8, ji9, true)) = some (r1, r2, r3) := by first | (rw [hji9] at H; exact H) | (simp only [hji9] at H ⊢; exact H)
    (try rw [hji9] at A3)
    (try rw [hji9] at A7)
    (try (have hji9h : ji9 ≤ 1099511627776 := by (rw [← hji9]; unfold mn; (repeat' split) <;> omega)))
    (try (have hji9g : ji9 ≤ 64 := by omega))
    have hji9_ : (if 1099511627776 < (wrap64 (a0 + t242)) then 1099511627776 else (wrap64 (a0 + t242))) = ji9 := hji9
    simp only [Option.some.injEq, Prod.mk.injEq] at H
    obtain ⟨rfl, rfl, rfl⟩ := H
    go_enter Try.func58, Try.ntmps58
    go_wp2_with (first | ((with_reducible refine gC (f := 97) rfl ?_); refine gL (some 9) rfl rfl Try.func97 (by kernel_rfl) rfl #[.float .f64 a1] rfl (by (try simp only [List.map_toArray, List.map_cons, List.map_nil]); first | done | rfl | (simp only [List.length_drop, List.length_take]; rfl)) ?_; (with_reducible refine (band_Right.calls a1 true _ A3.out).mono ?_); rintro e w' ⟨rfl, ⟨nd, rfl⟩⟩; refine ⟨_, rfl, ?_⟩) | ((with_reducible refine gC (f := 98) rfl ?_); refine gL (some 21) rfl rfl Try.func98 (by kernel_rfl) rfl #[.int .i64 a0, .float .f64 a1] rfl (by (try simp only [List.map_toArray, List.map_cons, List.map_nil]); first | done | rfl | (simp only [List.length_drop, List.length_take]; rfl)) ?_; (with_reducible refine (band_far.calls a0 a1 t242 _ A7.out).mono ?_); rintro e w' ⟨rfl, ⟨nd, rfl⟩⟩; refine ⟨_, rfl, ?_⟩))
    go_ret3
    exact ⟨by first | rfl | (simp [errW_none, errW_some] <;> rfl) | (simp only [← hji8, ← hji9]; first | rfl | (simp [errW_none, errW_some] <;> rfl)) | (simp [*, errW_none, errW_some] <;> rfl), by repeat (first | (with_reducible first | exact HB.out | apply bA | apply bN | apply bD) | exact HB.out)⟩
 ·replace c4 := Bool.eq_false_iff.mpr c4
  subst c4
  have H1 : (some (0, 0, false)) = some (r1, r2, r3) := by rw [if_neg (show ¬ (false = true) by decide)] at H; exact H
  clear H
  have H := H1
  clear H1
  simp only [Option.some.injEq, Prod.mk.injEq] at H
  obtain ⟨rfl, rfl, rfl⟩ := H
  go_enter Try.func58, Try.ntmps58
  go_wp2_with (first | ((with_reducible refine gC (f := 97) rfl ?_); refine gL (some 9) rfl rfl Try.func97 (by kernel_rfl) rfl #[.float .f64 a1] rfl (by (try simp only [List.map_toArray, List.map_cons, List.map_nil]); first | done | rfl | (simp only [List.length_drop, List.length_take]; rfl)) ?_; (with_reducible refine (band_Right.calls a1 false _ A3.out).mono ?_); rintro e w' ⟨rfl, ⟨nd, rfl⟩⟩; refine ⟨_, rfl, ?_⟩))
  go_ret3
  exact ⟨by first | rfl | (simp [errW_none, errW_some] <;> rfl) | (simp [*, errW_none, errW_some] <;> rfl), by repeat (first | (with_reducible first | exact HB.out | apply bA | apply bN | apply bD) | exact HB.out)⟩

/-! ### band_Within: function 94 -/
def band_Within.f (a0 : Int) (a1 : Int) (a2 : Nat) : Option (Bool) := (band_Collar.f a0 a2).bind fun bt243 => (if bt243.2.2 = true then (if bt243.1 ≤ a1 then (some (decide (a1 ≤ bt243.2.1))) else (some false)) else (some false))
set_option maxHeartbeats 8000000 in
set_option maxRecDepth 100000 in
theorem band_Within.calls (a0 : Int) (a1 : Int) (a2 : Nat) (r : Bool) (w : World) (h : band_Within.f a0 a1 a2 = some r) :
  Calls Try.prog 94 #[.int .i64 a0, .int .i64 a1, .float .f64 a2] w fun e w' => e = .returned (.bool r) ∧ Below w.heap.size w w' := by
 have HB := A0s.mk (Below.refl w.heap.size w)
 have H : ((band_Collar.f a0 a2).bind fun bt243 => (if bt243.2.2 = true then (if bt243.1 ≤ a1 then (some (decide (a1 ≤ bt243.2.1))) else (some false)) else (some false))) = some r := h
 clear h
 replace H := Option.bind_eq_some_iff.mp H
 obtain ⟨⟨t243, t244, t245⟩, A40, H⟩ := H
 replace H : (if t245 = true then (if t243 ≤ a1 then (some (decide (a1 ≤ t244))) else (some false)) else (some false)) = some r := H
 have A4 := A0s.mk A40
 clear A40
 by_cases c5 : t245 = true
 ·subst c5
  have H1 : (if t243 ≤ a1 then (some (decide (a1 ≤ t244))) else (some false)) = some r := by rw [if_pos rfl] at H; exact H
  clear H
  have H := H1
  clear H1
  by_cases c6 : t243 ≤ a1
  ·rw [if_pos c6] at H
   have c6b0 : decide (t243 ≤ a1) = true := decide_eq_true c6
   clear c6
   obtain rfl := Option.some.inj H
   go_enter Try.func94, Try.ntmps94
   go_wp2_with (first | ((with_reducible refine gC (f := 58) rfl ?_); refine gL (some 13) rfl rfl Try.func58 (by kernel_rfl) rfl #[.int .i64 a0, .float .f64 a2] rfl (by (try simp only [List.map_toArray, List.map_cons, List.map_nil]); first | done | rfl | (simp only [List.length_drop, List.length_take]; rfl)) ?_; (with_reducible refine (band_Collar.calls a0 a2 t243 t244 true _ A4.out).mono ?_); rintro e w7 ⟨rfl, hb⟩; refine ⟨_, rfl, ?_⟩; have n0_ := A0s.mk (below_step (by repeat (first | (with_reducible first | exact HB.out | apply bA | apply bN | apply bD) | exact HB.out)) hb); clear HB; have HB := n0_; clear n0_; (try clear hb); (try clear hb2); (try clear hk); (try clear hi)))
   go_ret
   exact ⟨by first | rfl | (simp [errW_none, errW_some] <;> rfl) | (simp [*, errW_none, errW_some] <;> rfl), by repeat (first | (with_reducible first | exact HB.out | apply bA | apply bN | apply bD) | exact HB.out)⟩
  ·rw [if_neg c6] at H
   have c6b0 : decide (t243 ≤ a1) = false := decide_eq_false c6
   clear c6
   obtain rfl := Option.some.inj H
   go_enter Try.func94, Try.ntmps94
   go_wp2_with (first | ((with_reducible refine gC (f := 58) rfl ?_); refine gL (some 13) rfl rfl Try.func58 (by kernel_rfl) rfl #[.int .i64 a0, .float .f64 a2] rfl (by (try simp only [List.map_toArray, List.map_cons, List.map_nil]); first | done | rfl | (simp only [List.length_drop, List.length_take]; rfl)) ?_; (with_reducible refine (band_Collar.calls a0 a2 t243 t244 true _ A4.out).mono ?_); rintro e w8 ⟨rfl, hb⟩; refine ⟨_, rfl, ?_⟩; have n0_ := A0s.mk (below_step (by repeat (first | (with_reducible first | exact HB.out | apply bA | apply bN | apply bD) | exact HB.out)) hb); clear HB; have HB := n0_; clear n0_; (try clear hb); (try clear hb2); (try clear hk); (try clear hi)))
   go_ret
   exact ⟨by first | rfl | (simp [errW_none, errW_some] <;> rfl) | (simp [*, errW_none, errW_some] <;> rfl), by repeat (first | (with_reducible first | exact HB.out | apply bA | apply bN | apply bD) | exact HB.out)⟩
 ·replace c5 := Bool.eq_false_iff.mpr c5
  subst c5
  have H1 : (some false) = some r := by rw [if_neg (show ¬ (false = true) by decide)] at H; exact H
  clear H
  have H := H1
  clear H1
  obtain rfl := Option.some.inj H
  go_enter Try.func94, Try.ntmps94
  go_wp2_with (first | ((with_reducible refine gC (f := 58) rfl ?_); refine gL (some 13) rfl rfl Try.func58 (by kernel_rfl) rfl #[.int .i64 a0, .float .f64 a2] rfl (by (try simp only [List.map_toArray, List.map_cons, List.map_nil]); first | done | rfl | (simp only [List.length_drop, List.length_take]; rfl)) ?_; (with_reducible refine (band_Collar.calls a0 a2 t243 t244 false _ A4.out).mono ?_); rintro e w9 ⟨rfl, hb⟩; refine ⟨_, rfl, ?_⟩; have n0_ := A0s.mk (below_step (by repeat (first | (with_reducible first | exact HB.out | apply bA | apply bN | apply bD) | exact HB.out)) hb); clear HB; have HB := n0_; clear n0_; (try clear hb); (try clear hb2); (try clear hk); (try clear hi)))
  go_ret
  exact ⟨by first | rfl | (simp [errW_none, errW_some] <;> rfl) | (simp [*, errW_none, errW_some] <;> rfl), by repeat (first | (with_reducible first | exact HB.out | apply bA | apply bN | apply bD) | exact HB.out)⟩

/-! ### rules_Look: function 53 -/
def rules_Look.j0 : Nat → Bool → Int → Int → Int → Int → List (S178) → List Int → List (S147) → Int → Int → Bool → Int → Int → Int → Int → Option (Int × Int)
 | 0, _, _, _, _, _, _, _, _, _, _, _, _, _, _, _ => none
 | k + 1, x9, x247000, x247001, x247002, x247003, x247004, x247005, x247006, x248000, x248001, x248002, x248003, x248004, x248005, x248006 => if x9 = true then (some (1, 0)) else ((rules_within_int.f x248000 0 (wrap64 ((x247005.length : Int) - 1))).bind fun t248 => (if t248 = true then ((rules_within_int.f x248001 0 (wrap64 ((x247006.length : Int) - 1))).bind fun t249 => (if t249 = true then (if 0 ≤ x248001 then (if x248001 < (x247006.length : Int) then ((fixed_Notional.f k x248003 x248004).bind fun bt252 => (if x248004 > ((rd_T147 x247006 x248001).f1) then (some (5, 0)) else (if bt252.2 = true then (if bt252.1 > ((rd_T147 x247006 x248001).f2) then (some (7, 0)) else ((band_Within.f ((rd_T147 x247006 x248001).f0) x248003 ((rd_T147 x247006 x248001).f3)).bind fun t254 => (if t254 = true then (some (0, bt252.1)) else (some (8, 0))))) else (some (6, 0))))) else (none)) else (none)) else (some (4, 0)))) else (some (3, 0))))
def rules_Look.f (k : Nat) (a0_0 : Int) (a0_1 : Int) (a0_2 : Int) (a0_3 : Int) (l0_4 : List (S178)) (l0_5 : List Int) (l0_6 : List (S147)) (a1_0 : Int) (a1_1 : Int) (a1_2 : Bool) (a1_3 : Int) (a1_4 : Int) (a1_5 : Int) (a1_6 : Int) : Option (Int × Int) := if (mn a1_3 a1_4) < 1 then (rules_Look.j0 k true a0_0 a0_1 a0_2 a0_3 l0_4 l0_5 l0_6 a1_0 a1_1 a1_2 a1_3 a1_4 a1_5 a1_6) else (rules_Look.j0 k (decide ((mn a1_5 a1_6) < 0)) a0_0 a0_1 a0_2 a0_3 l0_4 l0_5 l0_6 a1_0 a1_1 a1_2 a1_3 a1_4 a1_5 a1_6)
theorem rules_Look.mono_l : ∀ k, (∀ y0 y1 y2 y3 y4 y5 y6 y7 y8 y9 y10 y11 y12 y13 y14, LeO (rules_Look.j0 k y0 y1 y2 y3 y4 y5 y6 y7 y8 y9 y10 y11 y12 y13 y14) (rules_Look.j0 (k + 1) y0 y1 y2 y3 y4 y5 y6 y7 y8 y9 y10 y11 y12 y13 y14))
 | 0 => fun _ _ _ _ _ _ _ _ _ _ _ _ _ _ _ r h => by simp [rules_Look.j0] at h
 | k + 1 => by
  have ih0 := rules_Look.mono_l k
  ·intro y0 y1 y2 y3 y4 y5 y6 y7 y8 y9 y10 y11 y12 y13 y14
   unfold rules_Look.j0
   repeat' first
   | (with_reducible exact ih0 _ _ _ _ _ _ _ _ _ _ _ _ _ _ _)
   | (with_reducible exact fixed_Notional.mono _ _ _)
   | (with_reducible exact LeO.refl _)
   | (with_reducible exact LeO.none _)
   | (with_reducible refine LeO.ite ?_ ?_)
   | (with_reducible refine LeO.bind ?_ (fun _ => ?_))
   | exact ih0 _ _ _ _ _ _ _ _ _ _ _ _ _ _ _
   | exact fixed_Notional.mono _ _ _
   | exact LeO.none _
   | refine LeO.ite ?_ ?_
   | refine LeO.bind ?_ (fun _ => ?_)
theorem rules_Look.mono : ∀ a0 a1 a2 a3 a4 a5 a6 a7 a8 a9 a10 a11 a12 a13 k, LeO (rules_Look.f k a0 a1 a2 a3 a4 a5 a6 a7 a8 a9 a10 a11 a12 a13) (rules_Look.f (k + 1) a0 a1 a2 a3 a4 a5 a6 a7 a8 a9 a10 a11 a12 a13) := by
 intro a0 a1 a2 a3 a4 a5 a6 a7 a8 a9 a10 a11 a12 a13 k
 have ih0 := rules_Look.mono_l k
 unfold rules_Look.f
 repeat' first
   | (with_reducible exact ih0 _ _ _ _ _ _ _ _ _ _ _ _ _ _ _)
   | (with_reducible exact fixed_Notional.mono _ _ _)
   | (with_reducible exact LeO.refl _)
   | (with_reducible exact LeO.none _)
   | (with_reducible refine LeO.ite ?_ ?_)
   | (with_reducible refine LeO.bind ?_ (fun _ => ?_))
   | exact ih0 _ _ _ _ _ _ _ _ _ _ _ _ _ _ _
   | exact fixed_Notional.mono _ _ _
   | exact LeO.none _
   | refine LeO.ite ?_ ?_
   | refine LeO.bind ?_ (fun _ => ?_)
set_option maxHeartbeats 8000000 in
set_option maxRecDepth 100000 in
theorem rules_Look.calls (k : Nat) (a0_0 : Int) (a0_1 : Int) (a0_2 : Int) (a0_3 : Int) (A0_4 : Option Addr) (c0_4 : Nat) (l0_4 : List (S178)) (A0_5 : Option Addr) (c0_5 : Nat) (l0_5 : List Int) (A0_6 : Option Addr) (c0_6 : Nat) (l0_6 : List (S147)) (a1_0 : Int) (a1_1 : Int) (a1_2 : Bool) (a1_3 : Int) (a1_4 : Int) (a1_5 : Int) (a1_6 : Int) (r1 : Int) (r2 : Int) (w : World) (hr0_4 : Kd.C k178 w A0_4 l0_4.length l0_4) (hc0_4 : l0_4.length ≤ c0_4) (hr0_5 : Kd.C (Kd.int .i64) w A0_5 l0_5.length l0_5) (hc0_5 : l0_5.length ≤ c0_5) (hr0_6 : Kd.C k147 w A0_6 l0_6.length l0_6) (hc0_6 : l0_6.length ≤ c0_6) (h : rules_Look.f k a0_0 a0_1 a0_2 a0_3 l0_4 l0_5 l0_6 a1_0 a1_1 a1_2 a1_3 a1_4 a1_5 a1_6 = some (r1, r2)) :
  Calls Try.prog 53 #[.agg #[.int .i64 a0_0, .int .i64 a0_1, .int .i64 a0_2, .int .i64 a0_3, .slice A0_4 l0_4.length c0_4, .slice A0_5 l0_5.length c0_5, .slice A0_6 l0_6.length c0_6], .agg #[.int .i64 a1_0, .int .i64 a1_1, .bool a1_2, .int .i64 a1_3, .int .i64 a1_4, .int .i64 a1_5, .int .i64 a1_6]] w fun e w' => e = .returned (.tuple #[.int .i64 r1, .int .i64 r2]) ∧ Below w.heap.size w w' := by
 have hu90 := Try.underlying90
 have hu28 := Try.underlying28
 have hu147 := Try.underlying147
 have HR0_4 := A0s.mk hr0_4
 have HC0_4 := A0s.mk hc0_4
 clear hr0_4 hc0_4
 have HR0_5 := A0s.mk hr0_5
 have HC0_5 := A0s.mk hc0_5
 clear hr0_5 hc0_5
 have HR0_6 := A0s.mk hr0_6
 have HC0_6 := A0s.mk hc0_6
 clear hr0_6 hc0_6
 have HB := A0s.mk (Below.refl w.heap.size w)
 have H : (if (mn a1_3 a1_4) < 1 then (rules_Look.j0 k true a0_0 a0_1 a0_2 a0_3 l0_4 l0_5 l0_6 a1_0 a1_1 a1_2 a1_3 a1_4 a1_5 a1_6) else (rules_Look.j0 k (decide ((mn a1_5 a1_6) < 0)) a0_0 a0_1 a0_2 a0_3 l0_4 l0_5 l0_6 a1_0 a1_1 a1_2 a1_3 a1_4 a1_5 a1_6)) = some (r1, r2) := h
 clear h
 have HC3 := A0s.mk H
 clear H
 go_enter Try.func53, Try.ntmps53
 go_upto_region 1 with (first | ((with_reducible refine gate_dst (N := 2) rfl ?_); (try (refine gate_guard (by rfl) ?_; dsimp only)); refine box_event ?hg (N := 2) ?hd (cs := #[.int .i64 a0_0, .int .i64 a0_1, .int .i64 a0_2, .int .i64 a0_3, .slice A0_4 l0_4.length c0_4, .slice A0_5 l0_5.length c0_5, .slice A0_6 l0_6.length c0_6]) (t := 90) ?hr ?_; (case hd => rfl); (case hg => rfl); (case hr => first | (go_simp; done) | (go_simp; rfl)); intro gb246 hg w4 hbox hb; have n0_ := A0s.mk (below_step (by repeat (first | (with_reducible first | exact HB.out | apply bA | apply bN | apply bD) | exact HB.out)) hb); have n1_ := A0s.mk (hbox); have n2_ := A0s.mk ((by rw [hg]; exact (below_size (by repeat (first | (with_reducible first | exact HB.out | apply bA | apply bN | apply bD) | exact HB.out))) : w.heap.size ≤ gb246)); have n3_ := A0s.mk ((by rw [hg]; exact (below_size (by repeat (first | (with_reducible first | exact HB.out | apply bA | apply bN | apply bD) | exact HB.out))) : w.heap.size ≤ gb246)); clear HB; have HB := n0_; have BK246 := n1_; have GW246 := n2_; have GE246 := n3_; clear n0_ n1_ n2_ n3_; clear hb hbox hg) | ((with_reducible refine gate_dst (N := 3) rfl ?_); (try (refine gate_guard (by rfl) ?_; dsimp only)); refine box_event ?hg (N := 3) ?hd (cs := #[.int .i64 a1_0, .int .i64 a1_1, .bool a1_2, .int .i64 a1_3, .int .i64 a1_4, .int .i64 a1_5, .int .i64 a1_6]) (t := 28) ?hr ?_; (case hd => rfl); (case hg => rfl); (case hr => first | (go_simp; done) | (go_simp; rfl)); intro gb247 hg w5 hbox hb; have n0_ := A0s.mk (blk_below (g := gb246) (o := .cells #[.int .i64 a0_0, .int .i64 a0_1, .int .i64 a0_2, .int .i64 a0_3, .slice A0_4 l0_4.length c0_4, .slice A0_5 l0_5.length c0_5, .slice A0_6 l0_6.length c0_6] 90 (0, 0)) (by (with_reducible repeat (first | apply kN | apply kD | apply kA)); exact BK246.out) hb); have n1_ := A0s.mk (below_step (by repeat (first | (with_reducible first | exact HB.out | apply bA | apply bN | apply bD | refine bS ?_ GE246.out) | exact HB.out)) hb); have n2_ := A0s.mk (hbox); have n3_ := A0s.mk ((by rw [hg]; exact (below_size (by repeat (first | (with_reducible first | exact HB.out | apply bA | apply bN | apply bD | refine bS ?_ GE246.out) | exact HB.out))) : w.heap.size ≤ gb247)); have n4_ := A0s.mk ((by rw [hg]; exact (below_size (by repeat (first | (with_reducible first | exact HB.out | apply bA | apply bN | apply bD | refine bS ?_ GE246.out) | exact HB.out))) : w.heap.size ≤ gb247)); have n5_ := A0s.mk ((by rw [hg]; exact Nat.ne_of_lt (blk_lt (g := gb246) (o := .cells #[.int .i64 a0_0, .int .i64 a0_1, .int .i64 a0_2, .int .i64 a0_3, .slice A0_4 l0_4.length c0_4, .slice A0_5 l0_5.length c0_5, .slice A0_6 l0_6.length c0_6] 90 (0, 0)) (by (with_reducible repeat (first | apply kN | apply kD | apply kA)); exact BK246.out)) : gb246 ≠ gb247)); have n6_ := A0s.mk ((by rw [hg]; exact Nat.ne_of_gt (blk_lt (g := gb246) (o := .cells #[.int .i64 a0_0, .int .i64 a0_1, .int .i64 a0_2, .int .i64 a0_3, .slice A0_4 l0_4.length c0_4, .slice A0_5 l0_5.length c0_5, .slice A0_6 l0_6.length c0_6] 90 (0, 0)) (by (with_reducible repeat (first | apply kN | apply kD | apply kA)); exact BK246.out)) : gb247 ≠ gb246)); clear BK246; clear HB; have BK246 := n0_; have HB := n1_; have BK247 := n2_; have GW247 := n3_; have GE247 := n4_; have NB246_247 := n5_; have NB247_246 := n6_; clear n0_ n1_ n2_ n3_ n4_ n5_ n6_; clear hb hbox hg))
 (try simp only [Act.put, List.setIfInBounds_toArray, List.set_cons_zero, List.set_cons_succ])
 go_cut [9] (fun v9 wc => ∃ (kq : Nat) (x9_2 : Bool), v9 = .bool x9_2 ∧ A0s (rules_Look.j0 kq x9_2 a0_0 a0_1 a0_2 a0_3 l0_4 l0_5 l0_6 a1_0 a1_1 a1_2 a1_3 a1_4 a1_5 a1_6 = some (r1, r2)) ∧ A0s (kq ≤ k) ∧ A0s (wc.heap[gb246]? = some (.cells #[.int .i64 a0_0, .int .i64 a0_1, .int .i64 a0_2, .int .i64 a0_3, (.slice A0_4 l0_4.length c0_4), (.slice A0_5 l0_5.length c0_5), (.slice A0_6 l0_6.length c0_6)] 90 (0, 0))) ∧ A0s (wc.heap[gb247]? = some (.cells #[.int .i64 a1_0, .int .i64 a1_1, .bool a1_2, .int .i64 a1_3, .int .i64 a1_4, .int .i64 a1_5, .int .i64 a1_6] 28 (0, 0))) ∧ A0s (Below w.heap.size w wc))
 case first =>
  have H := HC3.out
  clear HC3
  obtain ⟨ji6, hji6⟩ : ∃ j_ : Int, (mn a1_3 a1_4) = j_ := ⟨_, rfl⟩
  replace H : (if (ji6) < 1 then (rules_Look.j0 k true a0_0 a0_1 a0_2 a0_3 l0_4 l0_5 l0_6 a1_0 a1_1 a1_2 a1_3 a1_4 a1_5 a1_6) else (rules_Look.j0 k (decide ((mn a1_5 a1_6) < 0)) a0_0 a0_1 a0_2 a0_3 l0_4 l0_5 l0_6 a1_0 a1_1 a1_2 a1_3 a1_4 a1_5 a1_6)) = some (r1, r2) := by first | (rw [hji6] at H; exact H) | (simp only [hji6] at H ⊢; exact H)
  have hji6_ : (if a1_4 < a1_3 then a1_4 else a1_3) = ji6 := hji6
  by_cases c7 : (ji6) < 1
  ·rw [if_pos c7] at H
   have c7b0 : decide ((ji6) < 1) = true := decide_eq_true c7
   clear c7
   (first | rw [c7b0] | (simp only [i64_w, i32_w]; rw [c7b0]) | skip)
   have H' := A0s.mk H
   clear H
   have hnb8 := NB247_246.out
   have hnc8 := NB246_247.out
   obtain ⟨hcz9_0, hcz9_1, hcz9_2, hcz9_3, hcz9_4, hcz9_5, hcz9_6, hfz9_0, hfz9_1, hfz9_2, hfz9_3, hfz9_4, hfz9_5, hfz9_6⟩ := blk_all7 BK247.out
   go_wp2
   go_meet
   case rel => exact ⟨_, (true), (by first | rfl | (simp; done) | (simp [*]; done)), H', ⟨by first | omega | exact Nat.le_refl _⟩, ⟨by (with_reducible repeat (first | apply kN | apply kD | apply kA)); exact BK246.out⟩, ⟨by (with_reducible repeat (first | apply kN | apply kD | apply kA)); exact BK247.out⟩, ⟨by repeat (first | (with_reducible first | exact HB.out | apply bA | apply bN | apply bD | refine bS ?_ GE246.out | refine bS ?_ GE247.out) | exact HB.out)⟩⟩
  ·rw [if_neg c7] at H
   have c7b0 : decide ((ji6) < 1) = false := decide_eq_false c7
   clear c7
   (first | rw [c7b0] | (simp only [i64_w, i32_w]; rw [c7b0]) | skip)
   obtain ⟨ji10, hji10⟩ : ∃ j_ : Int, (mn a1_5 a1_6) = j_ := ⟨_, rfl⟩
   replace H : (rules_Look.j0 k (decide ((ji10) < 0)) a0_0 a0_1 a0_2 a0_3 l0_4 l0_5 l0_6 a1_0 a1_1 a1_2 a1_3 a1_4 a1_5 a1_6) = some (r1, r2) := by first | (rw [hji10] at H; exact H) | (simp only [hji10] at H ⊢; exact H)
   have hji10_ : (if a1_6 < a1_5 then a1_6 else a1_5) = ji10 := hji10
   have H' := A0s.mk H
   clear H
   have hnb11 := NB247_246.out
   have hnc11 := NB246_247.out
   obtain ⟨hcz12_0, hcz12_1, hcz12_2, hcz12_3, hcz12_4, hcz12_5, hcz12_6, hfz12_0, hfz12_1, hfz12_2, hfz12_3, hfz12_4, hfz12_5, hfz12_6⟩ := blk_all7 BK247.out
   go_wp2
   go_meet
   case rel => exact ⟨_, (decide ((ji10) < 0)), (by first | rfl | (simp; done) | (simp only [← hji10] <;> (first | rfl | simp)) | (simp [*]; done)), H', ⟨by first | omega | exact Nat.le_refl _⟩, ⟨by (with_reducible repeat (first | apply kN | apply kD | apply kA)); exact BK246.out⟩, ⟨by (with_reducible repeat (first | apply kN | apply kD | apply kA)); exact BK247.out⟩, ⟨by repeat (first | (with_reducible first | exact HB.out | apply bA | apply bN | apply bD | refine bS ?_ GE246.out | refine bS ?_ GE247.out) | exact HB.out)⟩⟩
 case rest =>
  clear HC3
  try clear c1
  try clear p2
  try clear c5
  try clear c7
  try clear c7b0
  try clear c8
  try clear c11
  try clear hcz12_0
  try clear hcz12_1
  try clear hcz12_2
  try clear hcz12_3
  try clear hcz12_4
  try clear hcz12_5
  try clear hcz12_6
  try clear hcz9_0
  try clear hcz9_1
  try clear hcz9_2
  try clear hcz9_3
  try clear hcz9_4
  try clear hcz9_5
  try clear hcz9_6
  try clear hfz12_0
  try clear hfz12_1
  try clear hfz12_2
  try clear hfz12_3
  try clear hfz12_4
  try clear hfz12_5
  try clear hfz12_6
  try clear hfz9_0
  try clear hfz9_1
  try clear hfz9_2
  try clear hfz9_3
  try clear hfz9_4
  try clear hfz9_5
  try clear hfz9_6
  obtain ⟨kq, x9_2, rfl, HA, HJ2, BK246, BK247, HB⟩ := hcut
  cases kq with
  | zero => exact absurd HA.out (by simp [rules_Look.j0])
  | succ kj2 =>
   have H := HA.out
   clear HA
   simp only [rules_Look.j0] at H
   by_cases c13 : x9_2 = true
   ·subst c13
    have H1 : (some (1, 0)) = some (r1, r2) := by rw [if_pos rfl] at H; exact H
    clear H
    have H := H1
    clear H1
    simp only [Option.some.injEq, Prod.mk.injEq] at H
    obtain ⟨rfl, rfl⟩ := H
    go_wp2
    go_ret2
    exact ⟨by first | rfl | (simp [errW_none, errW_some] <;> rfl) | (simp [*, errW_none, errW_some] <;> rfl), by repeat (first | (with_reducible first | exact HB.out | apply bA | apply bN | apply bD | refine bS ?_ GE246.out | refine bS ?_ GE247.out) | exact HB.out)⟩
   ·replace c13 := Bool.eq_false_iff.mpr c13
    subst c13
    have H1 : ((rules_within_int.f a1_0 0 (wrap64 ((l0_5.length : Int) - 1))).bind fun t248 => (if t248 = true then ((rules_within_int.f a1_1 0 (wrap64 ((l0_6.length : Int) - 1))).bind fun t249 => (if t249 = true then (if 0 ≤ a1_1 then (if a1_1 < (l0_6.length : Int) then ((fixed_Notional.f kj2 a1_3 a1_4).bind fun bt252 => (if a1_4 > ((rd_T147 l0_6 a1_1).f1) then (some (5, 0)) else (if bt252.2 = true then (if bt252.1 > ((rd_T147 l0_6 a1_1).f2) then (some (7, 0)) else ((band_Within.f ((rd_T147 l0_6 a1_1).f0) a1_3 ((rd_T147 l0_6 a1_1).f3)).bind fun t254 => (if t254 = true then (some (0, bt252.1)) else (some (8, 0))))) else (some (6, 0))))) else (none)) else (none)) else (some (4, 0)))) else (some (3, 0)))) = some (r1, r2) := by rw [if_neg (show ¬ (false = true) by decide)] at H; exact H
    clear H
    have H := H1
    clear H1
    replace H := Option.bind_eq_some_iff.mp H
    obtain ⟨t248, A140, H⟩ := H
    replace H : (if t248 = true then ((rules_within_int.f a1_1 0 (wrap64 ((l0_6.length : Int) - 1))).bind fun t249 => (if t249 = true then (if 0 ≤ a1_1 then (if a1_1 < (l0_6.length : Int) then ((fixed_Notional.f kj2 a1_3 a1_4).bind fun bt252 => (if a1_4 > ((rd_T147 l0_6 a1_1).f1) then (some (5, 0)) else (if bt252.2 = true then (if bt252.1 > ((rd_T147 l0_6 a1_1).f2) then (some (7, 0)) else ((band_Within.f ((rd_T147 l0_6 a1_1).f0) a1_3 ((rd_T147 l0_6 a1_1).f3)).bind fun t254 => (if t254 = true then (some (0, bt252.1)) else (some (8, 0))))) else (some (6, 0))))) else (none)) else (none)) else (some (4, 0)))) else (some (3, 0))) = some (r1, r2) := H
    have A14 := A0s.mk A140
    clear A140
    by_cases c15 : t248 = true
    ·subst c15
     have H1 : ((rules_within_int.f a1_1 0 (wrap64 ((l0_6.length : Int) - 1))).bind fun t249 => (if t249 = true then (if 0 ≤ a1_1 then (if a1_1 < (l0_6.length : Int) then ((fixed_Notional.f kj2 a1_3 a1_4).bind fun bt252 => (if a1_4 > ((rd_T147 l0_6 a1_1).f1) then (some (5, 0)) else (if bt252.2 = true then (if bt252.1 > ((rd_T147 l0_6 a1_1).f2) then (some (7, 0)) else ((band_Within.f ((rd_T147 l0_6 a1_1).f0) a1_3 ((rd_T147 l0_6 a1_1).f3)).bind fun t254 => (if t254 = true then (some (0, bt252.1)) else (some (8, 0))))) else (some (6, 0))))) else (none)) else (none)) else (some (4, 0)))) = some (r1, r2) := by rw [if_pos rfl] at H; exact H
     clear H
     have H := H1
     clear H1
     replace H := Option.bind_eq_some_iff.mp H
     obtain ⟨t249, A160, H⟩ := H
     replace H : (if t249 = true then (if 0 ≤ a1_1 then (if a1_1 < (l0_6.length : Int) then ((fixed_Notional.f kj2 a1_3 a1_4).bind fun bt252 => (if a1_4 > ((rd_T147 l0_6 a1_1).f1) then (some (5, 0)) else (if bt252.2 = true then (if bt252.1 > ((rd_T147 l0_6 a1_1).f2) then (some (7, 0)) else ((band_Within.f ((rd_T147 l0_6 a1_1).f0) a1_3 ((rd_T147 l0_6 a1_1).f3)).bind fun t254 => (if t254 = true then (some (0, bt252.1)) else (some (8, 0))))) else (some (6, 0))))) else (none)) else (none)) else (some (4, 0))) = some (r1, r2) := H
     have A16 := A0s.mk A160
     clear A160
     by_cases c17 : t249 = true
     ·subst c17
      have H1 : (if 0 ≤ a1_1 then (if a1_1 < (l0_6.length : Int) then ((fixed_Notional.f kj2 a1_3 a1_4).bind fun bt252 => (if a1_4 > ((rd_T147 l0_6 a1_1).f1) then (some (5, 0)) else (if bt252.2 = true then (if bt252.1 > ((rd_T147 l0_6 a1_1).f2) then (some (7, 0)) else ((band_Within.f ((rd_T147 l0_6 a1_1).f0) a1_3 ((rd_T147 l0_6 a1_1).f3)).bind fun t254 => (if t254 = true then (some (0, bt252.1)) else (some (8, 0))))) else (some (6, 0))))) else (none)) else (none)) = some (r1, r2) := by rw [if_pos rfl] at H; exact H
      clear H
      have H := H1
      clear H1
      by_cases c18 : 0 ≤ a1_1
      ·rw [if_pos c18] at H
       have c18b0 : decide (0 ≤ a1_1) = true := decide_eq_true c18
       clear c18
       by_cases c19 : a1_1 < (l0_6.length : Int)
       ·rw [if_pos c19] at H
        have c19b0 : decide (a1_1 < (l0_6.length : Int)) = true := decide_eq_true c19
        clear c19
        replace H := Option.bind_eq_some_iff.mp H
        obtain ⟨⟨t252, t253⟩, A200, H⟩ := H
        replace H : (if a1_4 > ((rd_T147 l0_6 a1_1).f1) then (some (5, 0)) else (if t253 = true then (if t252 > ((rd_T147 l0_6 a1_1).f2) then (some (7, 0)) else ((band_Within.f ((rd_T147 l0_6 a1_1).f0) a1_3 ((rd_T147 l0_6 a1_1).f3)).bind fun t254 => (if t254 = true then (some (0, t252)) else (some (8, 0))))) else (some (6, 0)))) = some (r1, r2) := H
        have A20 := A0s.mk A200
        clear A200
        by_cases c21 : a1_4 > ((rd_T147 l0_6 a1_1).f1)
        ·rw [if_pos c21] at H
         have c21b0 : decide (((rd_T147 l0_6 a1_1).f1) < a1_4) = true := decide_eq_true c21
         clear c21
         simp only [Option.some.injEq, Prod.mk.injEq] at H
         obtain ⟨rfl, rfl⟩ := H
         have hnb22 := NB247_246.out
         have hnc22 := NB246_247.out
         obtain ⟨hcz23_0, hcz23_1, hcz23_2, hcz23_3, hcz23_4, hcz23_5, hcz23_6, hfz23_0, hfz23_1, hfz23_2, hfz23_3, hfz23_4, hfz23_5, hfz23_6⟩ := blk_all7 BK247.out
         obtain ⟨hcz24_0, hcz24_1, hcz24_2, hcz24_3, hcz24_4, hcz24_5, hcz24_6, hfz24_0, hfz24_1, hfz24_2, hfz24_3, hfz24_4, hfz24_5, hfz24_6⟩ := blk_all7 BK246.out
         go_wp2_with (first | ((with_reducible refine gC (f := 85) rfl ?_); refine gL (some 31) rfl rfl Try.func85 (by kernel_rfl) rfl #[.int .i64 a1_0, .int .i64 0, .int .i64 (wrap64 ((l0_5.length : Int) - 1))] rfl (by (try simp only [List.map_toArray, List.map_cons, List.map_nil]); first | done | rfl | (simp only [List.length_drop, List.length_take]; rfl)) ?_; (with_reducible refine (rules_within_int.calls a1_0 0 (wrap64 ((l0_5.length : Int) - 1)) true _ A14.out).mono ?_); rintro e w' ⟨rfl, ⟨nd, rfl⟩⟩; refine ⟨_, rfl, ?_⟩; (try (rw [drewN_self wc]; generalize hq_ : World.drewN wc _ = wc; have n0_ : A0s (wc.heap[gb246]? = some (.cells #[.int .i64 a0_0, .int .i64 a0_1, .int .i64 a0_2, .int .i64 a0_3, .slice A0_4 l0_4.length c0_4, .slice A0_5 l0_5.length c0_5, .slice A0_6 l0_6.length c0_6] 90 (0, 0))) := ⟨by rw [← hq_]; exact (by (with_reducible repeat (first | apply kN | apply kD | apply kA)); exact BK246.out)⟩; have n1_ : A0s (wc.heap[gb247]? = some (.cells #[.int .i64 a1_0, .int .i64 a1_1, .bool a1_2, .int .i64 a1_3, .int .i64 a1_4, .int .i64 a1_5, .int .i64 a1_6] 28 (0, 0))) := ⟨by rw [← hq_]; exact (by (with_reducible repeat (first | apply kN | apply kD | apply kA)); exact BK247.out)⟩; have n2_ : A0s (Below w.heap.size w wc) := ⟨by rw [← hq_]; exact (by repeat (first | (with_reducible first | exact HB.out | apply bA | apply bN | apply bD | refine bS ?_ GE246.out | refine bS ?_ GE247.out) | exact HB.out))⟩; clear BK246 BK247 HB hq_; have BK246 := n0_; have BK247 := n1_; have HB := n2_; clear n0_ n1_ n2_)); obtain ⟨hcz25_0, hcz25_1, hcz25_2, hcz25_3, hcz25_4, hcz25_5, hcz25_6, hfz25_0, hfz25_1, hfz25_2, hfz25_3, hfz25_4, hfz25_5, hfz25_6⟩ := blk_all7 BK247.out; obtain ⟨hcz26_0, hcz26_1, hcz26_2, hcz26_3, hcz26_4, hcz26_5, hcz26_6, hfz26_0, hfz26_1, hfz26_2, hfz26_3, hfz26_4, hfz26_5, hfz26_6⟩ := blk_all7 BK246.out) | ((with_reducible refine gC (f := 85) rfl ?_); refine gL (some 40) rfl rfl Try.func85 (by kernel_rfl) rfl #[.int .i64 a1_1, .int .i64 0, .int .i64 (wrap64 ((l0_6.length : Int) - 1))] rfl (by (try simp only [List.map_toArray, List.map_cons, List.map_nil]); first | done | rfl | (simp only [List.length_drop, List.length_take]; rfl)) ?_; (with_reducible refine (rules_within_int.calls a1_1 0 (wrap64 ((l0_6.length : Int) - 1)) true _ A16.out).mono ?_); rintro e w' ⟨rfl, ⟨nd, rfl⟩⟩; refine ⟨_, rfl, ?_⟩; (try (rw [drewN_self wc]; generalize hq_ : World.drewN wc _ = wc; have n0_ : A0s (wc.heap[gb246]? = some (.cells #[.int .i64 a0_0, .int .i64 a0_1, .int .i64 a0_2, .int .i64 a0_3, .slice A0_4 l0_4.length c0_4, .slice A0_5 l0_5.length c0_5, .slice A0_6 l0_6.length c0_6] 90 (0, 0))) := ⟨by rw [← hq_]; exact (by (with_reducible repeat (first | apply kN | apply kD | apply kA)); exact BK246.out)⟩; have n1_ : A0s (wc.heap[gb247]? = some (.cells #[.int .i64 a1_0, .int .i64 a1_1, .bool a1_2, .int .i64 a1_3, .int .i64 a1_4, .int .i64 a1_5, .int .i64 a1_6] 28 (0, 0))) := ⟨by rw [← hq_]; exact (by (with_reducible repeat (first | apply kN | apply kD | apply kA)); exact BK247.out)⟩; have n2_ : A0s (Below w.heap.size w wc) := ⟨by rw [← hq_]; exact (by repeat (first | (with_reducible first | exact HB.out | apply bA | apply bN | apply bD | refine bS ?_ GE246.out | refine bS ?_ GE247.out) | exact HB.out))⟩; clear BK246 BK247 HB hq_; have BK246 := n0_; have BK247 := n1_; have HB := n2_; clear n0_ n1_ n2_)); obtain ⟨hcz27_0, hcz27_1, hcz27_2, hcz27_3, hcz27_4, hcz27_5, hcz27_6, hfz27_0, hfz27_1, hfz27_2, hfz27_3, hfz27_4, hfz27_5, hfz27_6⟩ := blk_all7 BK246.out; obtain ⟨hcz28_0, hcz28_1, hcz28_2, hcz28_3, hcz28_4, hcz28_5, hcz28_6, hfz28_0, hfz28_1, hfz28_2, hfz28_3, hfz28_4, hfz28_5, hfz28_6⟩ := blk_all7 BK247.out; have p250 : 0 ≤ (a1_1 : Int) := of_decide_eq_true (by first | (with_reducible assumption) | assumption); have q250 : a1_1 < (l0_6.length : Int) := of_decide_eq_true (by first | (with_reducible assumption) | assumption); obtain ⟨ad250, e250, hx250_0, hx250_1, hx250_2, hx250_3⟩ := at_T147 HR0_6.out a1_1 p250 q250; cases e250; replace hx250_0 := (HB.out.cell (World.block_lt_of_cell? w _ hx250_0)).trans hx250_0; replace hx250_1 := (HB.out.cell (World.block_lt_of_cell? w _ hx250_1)).trans hx250_1; replace hx250_2 := (HB.out.cell (World.block_lt_of_cell? w _ hx250_2)).trans hx250_2; replace hx250_3 := (HB.out.cell (World.block_lt_of_cell? w _ hx250_3)).trans hx250_3; replace p250 := eq_true p250; replace q250 := eq_true q250) | ((with_reducible refine gate_dst (N := 6) rfl ?_); (try (refine gate_guard (by rfl) ?_; dsimp only)); refine box_event ?hg (N := 6) ?hd (cs := #[.int .i64 0, .int .i64 0, .int .i64 0, .float .f64 0]) (t := 147) ?hr ?_; (case hd => rfl); (case hg => rfl); (case hr => first | (go_simp; done) | (go_simp; rfl)); intro gb251 hg w29 hbox hb; have n0_ := A0s.mk (blk_below (g := gb246) (o := .cells #[.int .i64 a0_0, .int .i64 a0_1, .int .i64 a0_2, .int .i64 a0_3, .slice A0_4 l0_4.length c0_4, .slice A0_5 l0_5.length c0_5, .slice (some ad250) l0_6.length c0_6] 90 (0, 0)) (by (with_reducible repeat (first | apply kN | apply kD | apply kA)); exact BK246.out) hb); have n1_ := A0s.mk (blk_below (g := gb247) (o := .cells #[.int .i64 a1_0, .int .i64 a1_1, .bool a1_2, .int .i64 a1_3, .int .i64 a1_4, .int .i64 a1_5, .int .i64 a1_6] 28 (0, 0)) (by (with_reducible repeat (first | apply kN | apply kD | apply kA)); exact BK247.out) hb); have n2_ := A0s.mk (below_step (by repeat (first | (with_reducible first | exact HB.out | apply bA | apply bN | apply bD | refine bS ?_ GE246.out | refine bS ?_ GE247.out) | exact HB.out)) hb); have n3_ := A0s.mk (hbox); have n4_ := A0s.mk ((by rw [hg]; exact (below_size (by repeat (first | (with_reducible first | exact HB.out | apply bA | apply bN | apply bD | refine bS ?_ GE246.out | refine bS ?_ GE247.out) | exact HB.out))) : w.heap.size ≤ gb251)); have n5_ := A0s.mk ((by rw [hg]; exact (below_size (by repeat (first | (with_reducible first | exact HB.out | apply bA | apply bN | apply bD | refine bS ?_ GE246.out | refine bS ?_ GE247.out) | exact HB.out))) : w.heap.size ≤ gb251)); have n6_ := A0s.mk ((by rw [hg]; exact Nat.ne_of_lt (blk_lt (g := gb246) (o := .cells #[.int .i64 a0_0, .int .i64 a0_1, .int .i64 a0_2, .int .i64 a0_3, .slice A0_4 l0_4.length c0_4, .slice A0_5 l0_5.length c0_5, .slice (some ad250) l0_6.length c0_6] 90 (0, 0)) (by (with_reducible repeat (first | apply kN | apply kD | apply kA)); exact BK246.out)) : gb246 ≠ gb251)); have n7_ := A0s.mk ((by rw [hg]; exact Nat.ne_of_gt (blk_lt (g := gb246) (o := .cells #[.int .i64 a0_0, .int .i64 a0_1, .int .i64 a0_2, .int .i64 a0_3, .slice A0_4 l0_4.length c0_4, .slice A0_5 l0_5.length c0_5, .slice (some ad250) l0_6.length c0_6] 90 (0, 0)) (by (with_reducible repeat (first | apply kN | apply kD | apply kA)); exact BK246.out)) : gb251 ≠ gb246)); have n8_ := A0s.mk ((by rw [hg]; exact Nat.ne_of_lt (blk_lt (g := gb247) (o := .cells #[.int .i64 a1_0, .int .i64 a1_1, .bool a1_2, .int .i64 a1_3, .int .i64 a1_4, .int .i64 a1_5, .int .i64 a1_6] 28 (0, 0)) (by (with_reducible repeat (first | apply kN | apply kD | apply kA)); exact BK247.out)) : gb247 ≠ gb251)); have n9_ := A0s.mk ((by rw [hg]; exact Nat.ne_of_gt (blk_lt (g := gb247) (o := .cells #[.int .i64 a1_0, .int .i64 a1_1, .bool a1_2, .int .i64 a1_3, .int .i64 a1_4, .int .i64 a1_5, .int .i64 a1_6] 28 (0, 0)) (by (with_reducible repeat (first | apply kN | apply kD | apply kA)); exact BK247.out)) : gb251 ≠ gb247)); clear BK246; clear BK247; clear HB; have BK246 := n0_; have BK247 := n1_; have HB := n2_; have BK251 := n3_; have GW251 := n4_; have GE251 := n5_; have NB246_251 := n6_; have NB251_246 := n7_; have NB247_251 := n8_; have NB251_247 := n9_; clear n0_ n1_ n2_ n3_ n4_ n5_ n6_ n7_ n8_ n9_; clear hb hbox hg; have hnb30 := NB251_246.out; have hnc30 := NB246_251.out; have hnb31 := NB251_247.out; have hnc31 := NB247_251.out; obtain ⟨hcz32_0, hcz32_1, hcz32_2, hcz32_3, hfz32_0, hfz32_1, hfz32_2, hfz32_3⟩ := blk_all4 BK251.out; obtain ⟨hcz33_0, hcz33_1, hcz33_2, hcz33_3, hcz33_4, hcz33_5, hcz33_6, hfz33_0, hfz33_1, hfz33_2, hfz33_3, hfz33_4, hfz33_5, hfz33_6⟩ := blk_all7 BK247.out) | ((with_reducible refine gC (f := 93) rfl ?_); refine gL (some 53) rfl rfl Try.func93 (by kernel_rfl) rfl #[.int .i64 a1_3, .int .i64 a1_4] rfl (by (try simp only [List.map_toArray, List.map_cons, List.map_nil]); first | done | rfl | (simp only [List.length_drop, List.length_take]; rfl)) ?_; (with_reducible refine (fixed_Notional.calls kj2 a1_3 a1_4 t252 t253 _ A20.out).mono ?_); rintro e w' ⟨rfl, ⟨nd, rfl⟩⟩; refine ⟨_, rfl, ?_⟩))
         go_ret2
         exact ⟨by first | rfl | (simp [errW_none, errW_some] <;> rfl) | (simp [*, errW_none, errW_some] <;> rfl), by repeat (first | (with_reducible first | exact HB.out | apply bA | apply bN | apply bD | refine bS ?_ GE246.out | refine bS ?_ GE247.out | refine bS ?_ GE251.out) | exact HB.out)⟩
        ·rw [if_neg c21] at H
         have c21b0 : decide (((rd_T147 l0_6 a1_1).f1) < a1_4) = false := decide_eq_false c21
         clear c21
         by_cases c34 : t253 = true
         ·subst c34
          have H1 : (if t252 > ((rd_T147 l0_6 a1_1).f2) then (some (7, 0)) else ((band_Within.f ((rd_T147 l0_6 a1_1).f0) a1_3 ((rd_T147 l0_6 a1_1).f3)).bind fun t254 => (if t254 = true then (some (0, t252)) else (some (8, 0))))) = some (r1, r2) := by rw [if_pos rfl] at H; exact H
          clear H
          have H := H1
          clear H1
          by_cases c35 : t252 > ((rd_T147 l0_6 a1_1).f2)
          ·rw [if_pos c35] at H
           have c35b0 : decide (((rd_T147 l0_6 a1_1).f2) < t252) = true := decide_eq_true c35
           clear c35
           simp only [Option.some.injEq, Prod.mk.injEq] at H
           obtain ⟨rfl, rfl⟩ := H
           have hnb36 := NB247_246.out
           have hnc36 := NB246_247.out
           obtain ⟨hcz37_0, hcz37_1, hcz37_2, hcz37_3, hcz37_4, hcz37_5, hcz37_6, hfz37_0, hfz37_1, hfz37_2, hfz37_3, hfz37_4, hfz37_5, hfz37_6⟩ := blk_all7 BK247.out
           obtain ⟨hcz38_0, hcz38_1, hcz38_2, hcz38_3, hcz38_4, hcz38_5, hcz38_6, hfz38_0, hfz38_1, hfz38_2, hfz38_3, hfz38_4, hfz38_5, hfz38_6⟩ := blk_all7 BK246.out
           go_wp2_with (first | ((with_reducible refine gC (f := 85) rfl ?_); refine gL (some 31) rfl rfl Try.func85 (by kernel_rfl) rfl #[.int .i64 a1_0, .int .i64 0, .int .i64 (wrap64 ((l0_5.length : Int) - 1))] rfl (by (try simp only [List.map_toArray, List.map_cons, List.map_nil]); first | done | rfl | (simp only [List.length_drop, List.length_take]; rfl)) ?_; (with_reducible refine (rules_within_int.calls a1_0 0 (wrap64 ((l0_5.length : Int) - 1)) true _ A14.out).mono ?_); rintro e w' ⟨rfl, ⟨nd, rfl⟩⟩; refine ⟨_, rfl, ?_⟩; (try (rw [drewN_self wc]; generalize hq_ : World.drewN wc _ = wc; have n0_ : A0s (wc.heap[gb246]? = some (.cells #[.int .i64 a0_0, .int .i64 a0_1, .int .i64 a0_2, .int .i64 a0_3, .slice A0_4 l0_4.length c0_4, .slice A0_5 l0_5.length c0_5, .slice A0_6 l0_6.length c0_6] 90 (0, 0))) := ⟨by rw [← hq_]; exact (by (with_reducible repeat (first | apply kN | apply kD | apply kA)); exact BK246.out)⟩; have n1_ : A0s (wc.heap[gb247]? = some (.cells #[.int .i64 a1_0, .int .i64 a1_1, .bool a1_2, .int .i64 a1_3, .int .i64 a1_4, .int .i64 a1_5, .int .i64 a1_6] 28 (0, 0))) := ⟨by rw [← hq_]; exact (by (with_reducible repeat (first | apply kN | apply kD | apply kA)); exact BK247.out)⟩; have n2_ : A0s (Below w.heap.size w wc) := ⟨by rw [← hq_]; exact (by repeat (first | (with_reducible first | exact HB.out | apply bA | apply bN | apply bD | refine bS ?_ GE246.out | refine bS ?_ GE247.out) | exact HB.out))⟩; clear BK246 BK247 HB hq_; have BK246 := n0_; have BK247 := n1_; have HB := n2_; clear n0_ n1_ n2_)); obtain ⟨hcz39_0, hcz39_1, hcz39_2, hcz39_3, hcz39_4, hcz39_5, hcz39_6, hfz39_0, hfz39_1, hfz39_2, hfz39_3, hfz39_4, hfz39_5, hfz39_6⟩ := blk_all7 BK247.out; obtain ⟨hcz40_0, hcz40_1, hcz40_2, hcz40_3, hcz40_4, hcz40_5, hcz40_6, hfz40_0, hfz40_1, hfz40_2, hfz40_3, hfz40_4, hfz40_5, hfz40_6⟩ := blk_all7 BK246.out) | ((with_reducible refine gC (f := 85) rfl ?_); refine gL (some 40) rfl rfl Try.func85 (by kernel_rfl) rfl #[.int .i64 a1_1, .int .i64 0, .int .i64 (wrap64 ((l0_6.length : Int) - 1))] rfl (by (try simp only [List.map_toArray, List.map_cons, List.map_nil]); first | done | rfl | (simp only [List.length_drop, List.length_take]; rfl)) ?_; (with_reducible refine (rules_within_int.calls a1_1 0 (wrap64 ((l0_6.length : Int) - 1)) true _ A16.out).mono ?_); rintro e w' ⟨rfl, ⟨nd, rfl⟩⟩; refine ⟨_, rfl, ?_⟩; (try (rw [drewN_self wc]; generalize hq_ : World.drewN wc _ = wc; have n0_ : A0s (wc.heap[gb246]? = some (.cells #[.int .i64 a0_0, .int .i64 a0_1, .int .i64 a0_2, .int .i64 a0_3, .slice A0_4 l0_4.length c0_4, .slice A0_5 l0_5.length c0_5, .slice A0_6 l0_6.length c0_6] 90 (0, 0))) := ⟨by rw [← hq_]; exact (by (with_reducible repeat (first | apply kN | apply kD | apply kA)); exact BK246.out)⟩; have n1_ : A0s (wc.heap[gb247]? = some (.cells #[.int .i64 a1_0, .int .i64 a1_1, .bool a1_2, .int .i64 a1_3, .int .i64 a1_4, .int .i64 a1_5, .int .i64 a1_6] 28 (0, 0))) := ⟨by rw [← hq_]; exact (by (with_reducible repeat (first | apply kN | apply kD | apply kA)); exact BK247.out)⟩; have n2_ : A0s (Below w.heap.size w wc) := ⟨by rw [← hq_]; exact (by repeat (first | (with_reducible first | exact HB.out | apply bA | apply bN | apply bD | refine bS ?_ GE246.out | refine bS ?_ GE247.out) | exact HB.out))⟩; clear BK246 BK247 HB hq_; have BK246 := n0_; have BK247 := n1_; have HB := n2_; clear n0_ n1_ n2_)); obtain ⟨hcz41_0, hcz41_1, hcz41_2, hcz41_3, hcz41_4, hcz41_5, hcz41_6, hfz41_0, hfz41_1, hfz41_2, hfz41_3, hfz41_4, hfz41_5, hfz41_6⟩ := blk_all7 BK246.out; obtain ⟨hcz42_0, hcz42_1, hcz42_2, hcz42_3, hcz42_4, hcz42_5, hcz42_6, hfz42_0, hfz42_1, hfz42_2, hfz42_3, hfz42_4, hfz42_5, hfz42_6⟩ := blk_all7 BK247.out; have p250 : 0 ≤ (a1_1 : Int) := of_decide_eq_true (by first | (with_reducible assumption) | assumption); have q250 : a1_1 < (l0_6.length : Int) := of_decide_eq_true (by first | (with_reducible assumption) | assumption); obtain ⟨ad250, e250, hx250_0, hx250_1, hx250_2, hx250_3⟩ := at_T147 HR0_6.out a1_1 p250 q250; cases e250; replace hx250_0 := (HB.out.cell (World.block_lt_of_cell? w _ hx250_0)).trans hx250_0; replace hx250_1 := (HB.out.cell (World.block_lt_of_cell? w _ hx250_1)).trans hx250_1; replace hx250_2 := (HB.out.cell (World.block_lt_of_cell? w _ hx250_2)).trans hx250_2; replace hx250_3 := (HB.out.cell (World.block_lt_of_cell? w _ hx250_3)).trans hx250_3; replace p250 := eq_true p250; replace q250 := eq_true q250) | ((with_reducible refine gate_dst (N := 6) rfl ?_); (try (refine gate_guard (by rfl) ?_; dsimp only)); refine box_event ?hg (N := 6) ?hd (cs := #[.int .i64 0, .int .i64 0, .int .i64 0, .float .f64 0]) (t := 147) ?hr ?_; (case hd => rfl); (case hg => rfl); (case hr => first | (go_simp; done) | (go_simp; rfl)); intro gb251 hg w43 hbox hb; have n0_ := A0s.mk (blk_below (g := gb246) (o := .cells #[.int .i64 a0_0, .int .i64 a0_1, .int .i64 a0_2, .int .i64 a0_3, .slice A0_4 l0_4.length c0_4, .slice A0_5 l0_5.length c0_5, .slice (some ad250) l0_6.length c0_6] 90 (0, 0)) (by (with_reducible repeat (first | apply kN | apply kD | apply kA)); exact BK246.out) hb); have n1_ := A0s.mk (blk_below (g := gb247) (o := .cells #[.int .i64 a1_0, .int .i64 a1_1, .bool a1_2, .int .i64 a1_3, .int .i64 a1_4, .int .i64 a1_5, .int .i64 a1_6] 28 (0, 0)) (by (with_reducible repeat (first | apply kN | apply kD | apply kA)); exact BK247.out) hb); have n2_ := A0s.mk (below_step (by repeat (first | (with_reducible first | exact HB.out | apply bA | apply bN | apply bD | refine bS ?_ GE246.out | refine bS ?_ GE247.out) | exact HB.out)) hb); have n3_ := A0s.mk (hbox); have n4_ := A0s.mk ((by rw [hg]; exact (below_size (by repeat (first | (with_reducible first | exact HB.out | apply bA | apply bN | apply bD | refine bS ?_ GE246.out | refine bS ?_ GE247.out) | exact HB.out))) : w.heap.size ≤ gb251)); have n5_ := A0s.mk ((by rw [hg]; exact (below_size (by repeat (first | (with_reducible first | exact HB.out | apply bA | apply bN | apply bD | refine bS ?_ GE246.out | refine bS ?_ GE247.out) | exact HB.out))) : w.heap.size ≤ gb251)); have n6_ := A0s.mk ((by rw [hg]; exact Nat.ne_of_lt (blk_lt (g := gb246) (o := .cells #[.int .i64 a0_0, .int .i64 a0_1, .int .i64 a0_2, .int .i64 a0_3, .slice A0_4 l0_4.length c0_4, .slice A0_5 l0_5.length c0_5, .slice (some ad250) l0_6.length c0_6] 90 (0, 0)) (by (with_reducible repeat (first | apply kN | apply kD | apply kA)); exact BK246.out)) : gb246 ≠ gb251)); have n7_ := A0s.mk ((by rw [hg]; exact Nat.ne_of_gt (blk_lt (g := gb246) (o := .cells #[.int .i64 a0_0, .int .i64 a0_1, .int .i64 a0_2, .int .i64 a0_3, .slice A0_4 l0_4.length c0_4, .slice A0_5 l0_5.length c0_5, .slice (some ad250) l0_6.length c0_6] 90 (0, 0)) (by (with_reducible repeat (first | apply kN | apply kD | apply kA)); exact BK246.out)) : gb251 ≠ gb246)); have n8_ := A0s.mk ((by rw [hg]; exact Nat.ne_of_lt (blk_lt (g := gb247) (o := .cells #[.int .i64 a1_0, .int .i64 a1_1, .bool a1_2, .int .i64 a1_3, .int .i64 a1_4, .int .i64 a1_5, .int .i64 a1_6] 28 (0, 0)) (by (with_reducible repeat (first | apply kN | apply kD | apply kA)); exact BK247.out)) : gb247 ≠ gb251)); have n9_ := A0s.mk ((by rw [hg]; exact Nat.ne_of_gt (blk_lt (g := gb247) (o := .cells #[.int .i64 a1_0, .int .i64 a1_1, .bool a1_2, .int .i64 a1_3, .int .i64 a1_4, .int .i64 a1_5, .int .i64 a1_6] 28 (0, 0)) (by (with_reducible repeat (first | apply kN | apply kD | apply kA)); exact BK247.out)) : gb251 ≠ gb247)); clear BK246; clear BK247; clear HB; have BK246 := n0_; have BK247 := n1_; have HB := n2_; have BK251 := n3_; have GW251 := n4_; have GE251 := n5_; have NB246_251 := n6_; have NB251_246 := n7_; have NB247_251 := n8_; have NB251_247 := n9_; clear n0_ n1_ n2_ n3_ n4_ n5_ n6_ n7_ n8_ n9_; clear hb hbox hg; have hnb44 := NB251_246.out; have hnc44 := NB246_251.out; have hnb45 := NB251_247.out; have hnc45 := NB247_251.out; obtain ⟨hcz46_0, hcz46_1, hcz46_2, hcz46_3, hfz46_0, hfz46_1, hfz46_2, hfz46_3⟩ := blk_all4 BK251.out; obtain ⟨hcz47_0, hcz47_1, hcz47_2, hcz47_3, hcz47_4, hcz47_5, hcz47_6, hfz47_0, hfz47_1, hfz47_2, hfz47_3, hfz47_4, hfz47_5, hfz47_6⟩ := blk_all7 BK247.out) | ((with_reducible refine gC (f := 93) rfl ?_); refine gL (some 53) rfl rfl Try.func93 (by kernel_rfl) rfl #[.int .i64 a1_3, .int .i64 a1_4] rfl (by (try simp only [List.map_toArray, List.map_cons, List.map_nil]); first | done | rfl | (simp only [List.length_drop, List.length_take]; rfl)) ?_; (with_reducible refine (fixed_Notional.calls kj2 a1_3 a1_4 t252 true _ A20.out).mono ?_); rintro e w' ⟨rfl, ⟨nd, rfl⟩⟩; refine ⟨_, rfl, ?_⟩))
           go_ret2
           exact ⟨by first | rfl | (simp [errW_none, errW_some] <;> rfl) | (simp [*, errW_none, errW_some] <;> rfl), by repeat (first | (with_reducible first | exact HB.out | apply bA | apply bN | apply bD | refine bS ?_ GE246.out | refine bS ?_ GE247.out | refine bS ?_ GE251.out) | exact HB.out)⟩
          ·rw [if_neg c35] at H
           have c35b0 : decide (((rd_T147 l0_6 a1_1).f2) < t252) = false := decide_eq_false c35
           clear c35
           replace H := Option.bind_eq_some_iff.mp H
           obtain ⟨t254, A480, H⟩ := H
           replace H : (if t254 = true then (some (0, t252)) else (some (8, 0))) = some (r1, r2) := H
           have A48 := A0s.mk A480
           clear A480
           by_cases c49 : t254 = true
           ·subst c49
            have H1 : (some (0, t252)) = some (r1, r2) := by rw [if_pos rfl] at H; exact H
            clear H
            have H := H1
            clear H1
            simp only [Option.some.injEq, Prod.mk.injEq] at H
            obtain ⟨rfl, rfl⟩ := H
            have hnb50 := NB247_246.out
            have hnc50 := NB246_247.out
            obtain ⟨hcz51_0, hcz51_1, hcz51_2, hcz51_3, hcz51_4, hcz51_5, hcz51_6, hfz51_0, hfz51_1, hfz51_2, hfz51_3, hfz51_4, hfz51_5, hfz51_6⟩ := blk_all7 BK247.out
            obtain ⟨hcz52_0, hcz52_1, hcz52_2, hcz52_3, hcz52_4, hcz52_5, hcz52_6, hfz52_0, hfz52_1, hfz52_2, hfz52_3, hfz52_4, hfz52_5, hfz52_6⟩ := blk_all7 BK246.out
            go_wp2_with (first | ((with_reducible refine gC (f := 85) rfl ?_); refine gL (some 31) rfl rfl Try.func85 (by kernel_rfl) rfl #[.int .i64 a1_0, .int .i64 0, .int .i64 (wrap64 ((l0_5.length : Int) - 1))] rfl (by (try simp only [List.map_toArray, List.map_cons, List.map_nil]); first | done | rfl | (simp only [List.length_drop, List.length_take]; rfl)) ?_; (with_reducible refine (rules_within_int.calls a1_0 0 (wrap64 ((l0_5.length : Int) - 1)) true _ A14.out).mono ?_); rintro e w' ⟨rfl, ⟨nd, rfl⟩⟩; refine ⟨_, rfl, ?_⟩; (try (rw [drewN_self wc]; generalize hq_ : World.drewN wc _ = wc; have n0_ : A0s (wc.heap[gb246]? = some (.cells #[.int .i64 a0_0, .int .i64 a0_1, .int .i64 a0_2, .int .i64 a0_3, .slice A0_4 l0_4.length c0_4, .slice A0_5 l0_5.length c0_5, .slice A0_6 l0_6.length c0_6] 90 (0, 0))) := ⟨by rw [← hq_]; exact (by (with_reducible repeat (first | apply kN | apply kD | apply kA)); exact BK246.out)⟩; have n1_ : A0s (wc.heap[gb247]? = some (.cells #[.int .i64 a1_0, .int .i64 a1_1, .bool a1_2, .int .i64 a1_3, .int .i64 a1_4, .int .i64 a1_5, .int .i64 a1_6] 28 (0, 0))) := ⟨by rw [← hq_]; exact (by (with_reducible repeat (first | apply kN | apply kD | apply kA)); exact BK247.out)⟩; have n2_ : A0s (Below w.heap.size w wc) := ⟨by rw [← hq_]; exact (by repeat (first | (with_reducible first | exact HB.out | apply bA | apply bN | apply bD | refine bS ?_ GE246.out | refine bS ?_ GE247.out) | exact HB.out))⟩; clear BK246 BK247 HB hq_; have BK246 := n0_; have BK247 := n1_; have HB := n2_; clear n0_ n1_ n2_)); obtain ⟨hcz53_0, hcz53_1, hcz53_2, hcz53_3, hcz53_4, hcz53_5, hcz53_6, hfz53_0, hfz53_1, hfz53_2, hfz53_3, hfz53_4, hfz53_5, hfz53_6⟩ := blk_all7 BK247.out; obtain ⟨hcz54_0, hcz54_1, hcz54_2, hcz54_3, hcz54_4, hcz54_5, hcz54_6, hfz54_0, hfz54_1, hfz54_2, hfz54_3, hfz54_4, hfz54_5, hfz54_6⟩ := blk_all7 BK246.out) | ((with_reducible refine gC (f := 85) rfl ?_); refine gL (some 40) rfl rfl Try.func85 (by kernel_rfl) rfl #[.int .i64 a1_1, .int .i64 0, .int .i64 (wrap64 ((l0_6.length : Int) - 1))] rfl (by (try simp only [List.map_toArray, List.map_cons, List.map_nil]); first | done | rfl | (simp only [List.length_drop, List.length_take]; rfl)) ?_; (with_reducible refine (rules_within_int.calls a1_1 0 (wrap64 ((l0_6.length : Int) - 1)) true _ A16.out).mono ?_); rintro e w' ⟨rfl, ⟨nd, rfl⟩⟩; refine ⟨_, rfl, ?_⟩; (try (rw [drewN_self wc]; generalize hq_ : World.drewN wc _ = wc; have n0_ : A0s (wc.heap[gb246]? = some (.cells #[.int .i64 a0_0, .int .i64 a0_1, .int .i64 a0_2, .int .i64 a0_3, .slice A0_4 l0_4.length c0_4, .slice A0_5 l0_5.length c0_5, .slice A0_6 l0_6.length c0_6] 90 (0, 0))) := ⟨by rw [← hq_]; exact (by (with_reducible repeat (first | apply kN | apply kD | apply kA)); exact BK246.out)⟩; have n1_ : A0s (wc.heap[gb247]? = some (.cells #[.int .i64 a1_0, .int .i64 a1_1, .bool a1_2, .int .i64 a1_3, .int .i64 a1_4, .int .i64 a1_5, .int .i64 a1_6] 28 (0, 0))) := ⟨by rw [← hq_]; exact (by (with_reducible repeat (first | apply kN | apply kD | apply kA)); exact BK247.out)⟩; have n2_ : A0s (Below w.heap.size w wc) := ⟨by rw [← hq_]; exact (by repeat (first | (with_reducible first | exact HB.out | apply bA | apply bN | apply bD | refine bS ?_ GE246.out | refine bS ?_ GE247.out) | exact HB.out))⟩; clear BK246 BK247 HB hq_; have BK246 := n0_; have BK247 := n1_; have HB := n2_; clear n0_ n1_ n2_)); obtain ⟨hcz55_0, hcz55_1, hcz55_2, hcz55_3, hcz55_4, hcz55_5, hcz55_6, hfz55_0, hfz55_1, hfz55_2, hfz55_3, hfz55_4, hfz55_5, hfz55_6⟩ := blk_all7 BK246.out; obtain ⟨hcz56_0, hcz56_1, hcz56_2, hcz56_3, hcz56_4, hcz56_5, hcz56_6, hfz56_0, hfz56_1, hfz56_2, hfz56_3, hfz56_4, hfz56_5, hfz56_6⟩ := blk_all7 BK247.out; have p250 : 0 ≤ (a1_1 : Int) := of_decide_eq_true (by first | (with_reducible assumption) | assumption); have q250 : a1_1 < (l0_6.length : Int) := of_decide_eq_true (by first | (with_reducible assumption) | assumption); obtain ⟨ad250, e250, hx250_0, hx250_1, hx250_2, hx250_3⟩ := at_T147 HR0_6.out a1_1 p250 q250; cases e250; replace hx250_0 := (HB.out.cell (World.block_lt_of_cell? w _ hx250_0)).trans hx250_0; replace hx250_1 := (HB.out.cell (World.block_lt_of_cell? w _ hx250_1)).trans hx250_1; replace hx250_2 := (HB.out.cell (World.block_lt_of_cell? w _ hx250_2)).trans hx250_2; replace hx250_3 := (HB.out.cell (World.block_lt_of_cell? w _ hx250_3)).trans hx250_3; replace p250 := eq_true p250; replace q250 := eq_true q250) | ((with_reducible refine gate_dst (N := 6) rfl ?_); (try (refine gate_guard (by rfl) ?_; dsimp only)); refine box_event ?hg (N := 6) ?hd (cs := #[.int .i64 0, .int .i64 0, .int .i64 0, .float .f64 0]) (t := 147) ?hr ?_; (case hd => rfl); (case hg => rfl); (case hr => first | (go_simp; done) | (go_simp; rfl)); intro gb251 hg w57 hbox hb; have n0_ := A0s.mk (blk_below (g := gb246) (o := .cells #[.int .i64 a0_0, .int .i64 a0_1, .int .i64 a0_2, .int .i64 a0_3, .slice A0_4 l0_4.length c0_4, .slice A0_5 l0_5.length c0_5, .slice (some ad250) l0_6.length c0_6] 90 (0, 0)) (by (with_reducible repeat (first | apply kN | apply kD | apply kA)); exact BK246.out) hb); have n1_ := A0s.mk (blk_below (g := gb247) (o := .cells #[.int .i64 a1_0, .int .i64 a1_1, .bool a1_2, .int .i64 a1_3, .int .i64 a1_4, .int .i64 a1_5, .int .i64 a1_6] 28 (0, 0)) (by (with_reducible repeat (first | apply kN | apply kD | apply kA)); exact BK247.out) hb); have n2_ := A0s.mk (below_step (by repeat (first | (with_reducible first | exact HB.out | apply bA | apply bN | apply bD | refine bS ?_ GE246.out | refine bS ?_ GE247.out) | exact HB.out)) hb); have n3_ := A0s.mk (hbox); have n4_ := A0s.mk ((by rw [hg]; exact (below_size (by repeat (first | (with_reducible first | exact HB.out | apply bA | apply bN | apply bD | refine bS ?_ GE246.out | refine bS ?_ GE247.out) | exact HB.out))) : w.heap.size ≤ gb251)); have n5_ := A0s.mk ((by rw [hg]; exact (below_size (by repeat (first | (with_reducible first | exact HB.out | apply bA | apply bN | apply bD | refine bS ?_ GE246.out | refine bS ?_ GE247.out) | exact HB.out))) : w.heap.size ≤ gb251)); have n6_ := A0s.mk ((by rw [hg]; exact Nat.ne_of_lt (blk_lt (g := gb246) (o := .cells #[.int .i64 a0_0, .int .i64 a0_1, .int .i64 a0_2, .int .i64 a0_3, .slice A0_4 l0_4.length c0_4, .slice A0_5 l0_5.length c0_5, .slice (some ad250) l0_6.length c0_6] 90 (0, 0)) (by (with_reducible repeat (first | apply kN | apply kD | apply kA)); exact BK246.out)) : gb246 ≠ gb251)); have n7_ := A0s.mk ((by rw [hg]; exact Nat.ne_of_gt (blk_lt (g := gb246) (o := .cells #[.int .i64 a0_0, .int .i64 a0_1, .int .i64 a0_2, .int .i64 a0_3, .slice A0_4 l0_4.length c0_4, .slice A0_5 l0_5.length c0_5, .slice (some ad250) l0_6.length c0_6] 90 (0, 0)) (by (with_reducible repeat (first | apply kN | apply kD | apply kA)); exact BK246.out)) : gb251 ≠ gb246)); have n8_ := A0s.mk ((by rw [hg]; exact Nat.ne_of_lt (blk_lt (g := gb247) (o := .cells #[.int .i64 a1_0, .int .i64 a1_1, .bool a1_2, .int .i64 a1_3, .int .i64 a1_4, .int .i64 a1_5, .int .i64 a1_6] 28 (0, 0)) (by (with_reducible repeat (first | apply kN | apply kD | apply kA)); exact BK247.out)) : gb247 ≠ gb251)); have n9_ := A0s.mk ((by rw [hg]; exact Nat.ne_of_gt (blk_lt (g := gb247) (o := .cells #[.int .i64 a1_0, .int .i64 a1_1, .bool a1_2, .int .i64 a1_3, .int .i64 a1_4, .int .i64 a1_5, .int .i64 a1_6] 28 (0, 0)) (by (with_reducible repeat (first | apply kN | apply kD | apply kA)); exact BK247.out)) : gb251 ≠ gb247)); clear BK246; clear BK247; clear HB; have BK246 := n0_; have BK247 := n1_; have HB := n2_; have BK251 := n3_; have GW251 := n4_; have GE251 := n5_; have NB246_251 := n6_; have NB251_246 := n7_; have NB247_251 := n8_; have NB251_247 := n9_; clear n0_ n1_ n2_ n3_ n4_ n5_ n6_ n7_ n8_ n9_; clear hb hbox hg; have hnb58 := NB251_246.out; have hnc58 := NB246_251.out; have hnb59 := NB251_247.out; have hnc59 := NB247_251.out; obtain ⟨hcz60_0, hcz60_1, hcz60_2, hcz60_3, hfz60_0, hfz60_1, hfz60_2, hfz60_3⟩ := blk_all4 BK251.out; obtain ⟨hcz61_0, hcz61_1, hcz61_2, hcz61_3, hcz61_4, hcz61_5, hcz61_6, hfz61_0, hfz61_1, hfz61_2, hfz61_3, hfz61_4, hfz61_5, hfz61_6⟩ := blk_all7 BK247.out) | ((with_reducible refine gC (f := 93) rfl ?_); refine gL (some 53) rfl rfl Try.func93 (by kernel_rfl) rfl #[.int .i64 a1_3, .int .i64 a1_4] rfl (by (try simp only [List.map_toArray, List.map_cons, List.map_nil]); first | done | rfl | (simp only [List.length_drop, List.length_take]; rfl)) ?_; (with_reducible refine (fixed_Notional.calls kj2 a1_3 a1_4 t252 true _ A20.out).mono ?_); rintro e w' ⟨rfl, ⟨nd, rfl⟩⟩; refine ⟨_, rfl, ?_⟩) | ((with_reducible refine gC (f := 94) rfl ?_); refine gL (some 77) rfl rfl Try.func94 (by kernel_rfl) rfl #[.int .i64 ((rd_T147 l0_6 a1_1).f0), .int .i64 a1_3, .float .f64 ((rd_T147 l0_6 a1_1).f3)] rfl (by (try simp only [List.map_toArray, List.map_cons, List.map_nil]); first | done | rfl | (simp only [List.length_drop, List.length_take]; rfl)) ?_; (with_reducible refine (band_Within.calls ((rd_T147 l0_6 a1_1).f0) a1_3 ((rd_T147 l0_6 a1_1).f3) true _ A48.out).mono ?_); rintro e w62 ⟨rfl, hb⟩; refine ⟨_, rfl, ?_⟩; have n0_ := A0s.mk (blk_below (g := gb246) (o := .cells #[.int .i64 a0_0, .int .i64 a0_1, .int .i64 a0_2, .int .i64 a0_3, .slice A0_4 l0_4.length c0_4, .slice A0_5 l0_5.length c0_5, .slice (some ad250) l0_6.length c0_6] 90 (0, 0)) (by (with_reducible repeat (first | apply kN | apply kD | apply kA)); refine blk_far ?_ NB246_251.out _; (with_reducible repeat (first | apply kN | apply kD | apply kA)); refine blk_far ?_ NB246_251.out _; (with_reducible repeat (first | apply kN | apply kD | apply kA)); refine blk_far ?_ NB246_251.out _; (with_reducible repeat (first | apply kN | apply kD | apply kA)); refine blk_far ?_ NB246_251.out _; (with_reducible repeat (first | apply kN | apply kD | apply kA)); exact BK246.out) hb); have n1_ := A0s.mk (blk_below (g := gb247) (o := .cells #[.int .i64 a1_0, .int .i64 a1_1, .bool a1_2, .int .i64 a1_3, .int .i64 a1_4, .int .i64 a1_5, .int .i64 a1_6] 28 (0, 0)) (by (with_reducible repeat (first | apply kN | apply kD | apply kA)); refine blk_far ?_ NB247_251.out _; (with_reducible repeat (first | apply kN | apply kD | apply kA)); refine blk_far ?_ NB247_251.out _; (with_reducible repeat (first | apply kN | apply kD | apply kA)); refine blk_far ?_ NB247_251.out _; (with_reducible repeat (first | apply kN | apply kD | apply kA)); refine blk_far ?_ NB247_251.out _; (with_reducible repeat (first | apply kN | apply kD | apply kA)); exact BK247.out) hb); have n2_ := A0s.mk (blk_below (g := gb251) (o := .cells #[.int .i64 ((rd_T147 l0_6 a1_1).f0), .int .i64 ((rd_T147 l0_6 a1_1).f1), .int .i64 ((rd_T147 l0_6 a1_1).f2), .float .f64 ((rd_T147 l0_6 a1_1).f3)] 147 (0, 0)) (by (with_reducible repeat (first | apply kN | apply kD | apply kA)); refine blk_put (cs := #[.int .i64 ((rd_T147 l0_6 a1_1).f0), .int .i64 ((rd_T147 l0_6 a1_1).f1), .int .i64 ((rd_T147 l0_6 a1_1).f2), .float .f64 0]) ?_ 3 _ rfl; (with_reducible repeat (first | apply kN | apply kD | apply kA)); refine blk_put (cs := #[.int .i64 ((rd_T147 l0_6 a1_1).f0), .int .i64 ((rd_T147 l0_6 a1_1).f1), .int .i64 0, .float .f64 0]) ?_ 2 _ rfl; (with_reducible repeat (first | apply kN | apply kD | apply kA)); refine blk_put (cs := #[.int .i64 ((rd_T147 l0_6 a1_1).f0), .int .i64 0, .int .i64 0, .float .f64 0]) ?_ 1 _ rfl; (with_reducible repeat (first | apply kN | apply kD | apply kA)); refine blk_put (cs := #[.int .i64 0, .int .i64 0, .int .i64 0, .float .f64 0]) ?_ 0 _ rfl; (with_reducible repeat (first | apply kN | apply kD | apply kA)); exact BK251.out) hb); have n3_ := A0s.mk (below_step (by repeat (first | (with_reducible first | exact HB.out | apply bA | apply bN | apply bD | refine bS ?_ GE246.out | refine bS ?_ GE247.out | refine bS ?_ GE251.out) | exact HB.out)) hb); clear BK246; clear BK247; clear BK251; clear HB; have BK246 := n0_; have BK247 := n1_; have BK251 := n2_; have HB := n3_; clear n0_ n1_ n2_ n3_; (try clear hb); (try clear hb2); (try clear hk); (try clear hi)))
            go_ret2
            exact ⟨by first | rfl | (simp [errW_none, errW_some] <;> rfl) | (simp [*, errW_none, errW_some] <;> rfl), by repeat (first | (with_reducible first | exact HB.out | apply bA | apply bN | apply bD | refine bS ?_ GE246.out | refine bS ?_ GE247.out | refine bS ?_ GE251.out) | exact HB.out)⟩
           ·replace c49 := Bool.eq_false_iff.mpr c49
            subst c49
            have H1 : (some (8, 0)) = some (r1, r2) := by rw [if_neg (show ¬ (false = true) by decide)] at H; exact H
            clear H
            have H := H1
            clear H1
            simp only [Option.some.injEq, Prod.mk.injEq] at H
            obtain ⟨rfl, rfl⟩ := H
            have hnb63 := NB247_246.out
            have hnc63 := NB246_247.out
            obtain ⟨hcz64_0, hcz64_1, hcz64_2, hcz64_3, hcz64_4, hcz64_5, hcz64_6, hfz64_0, hfz64_1, hfz64_2, hfz64_3, hfz64_4, hfz64_5, hfz64_6⟩ := blk_all7 BK247.out
            obtain ⟨hcz65_0, hcz65_1, hcz65_2, hcz65_3, hcz65_4, hcz65_5, hcz65_6, hfz65_0, hfz65_1, hfz65_2, hfz65_3, hfz65_4, hfz65_5, hfz65_6⟩ := blk_all7 BK246.out
            go_wp2_with (first | ((with_reducible refine gC (f := 85) rfl ?_); refine gL (some 31) rfl rfl Try.func85 (by kernel_rfl) rfl #[.int .i64 a1_0, .int .i64 0, .int .i64 (wrap64 ((l0_5.length : Int) - 1))] rfl (by (try simp only [List.map_toArray, List.map_cons, List.map_nil]); first | done | rfl | (simp only [List.length_drop, List.length_take]; rfl)) ?_; (with_reducible refine (rules_within_int.calls a1_0 0 (wrap64 ((l0_5.length : Int) - 1)) true _ A14.out).mono ?_); rintro e w' ⟨rfl, ⟨nd, rfl⟩⟩; refine ⟨_, rfl, ?_⟩; (try (rw [drewN_self wc]; generalize hq_ : World.drewN wc _ = wc; have n0_ : A0s (wc.heap[gb246]? = some (.cells #[.int .i64 a0_0, .int .i64 a0_1, .int .i64 a0_2, .int .i64 a0_3, .slice A0_4 l0_4.length c0_4, .slice A0_5 l0_5.length c0_5, .slice A0_6 l0_6.length c0_6] 90 (0, 0))) := ⟨by rw [← hq_]; exact (by (with_reducible repeat (first | apply kN | apply kD | apply kA)); exact BK246.out)⟩; have n1_ : A0s (wc.heap[gb247]? = some (.cells #[.int .i64 a1_0, .int .i64 a1_1, .bool a1_2, .int .i64 a1_3, .int .i64 a1_4, .int .i64 a1_5, .int .i64 a1_6] 28 (0, 0))) := ⟨by rw [← hq_]; exact (by (with_reducible repeat (first | apply kN | apply kD | apply kA)); exact BK247.out)⟩; have n2_ : A0s (Below w.heap.size w wc) := ⟨by rw [← hq_]; exact (by repeat (first | (with_reducible first | exact HB.out | apply bA | apply bN | apply bD | refine bS ?_ GE246.out | refine bS ?_ GE247.out) | exact HB.out))⟩; clear BK246 BK247 HB hq_; have BK246 := n0_; have BK247 := n1_; have HB := n2_; clear n0_ n1_ n2_)); obtain ⟨hcz66_0, hcz66_1, hcz66_2, hcz66_3, hcz66_4, hcz66_5, hcz66_6, hfz66_0, hfz66_1, hfz66_2, hfz66_3, hfz66_4, hfz66_5, hfz66_6⟩ := blk_all7 BK247.out; obtain ⟨hcz67_0, hcz67_1, hcz67_2, hcz67_3, hcz67_4, hcz67_5, hcz67_6, hfz67_0, hfz67_1, hfz67_2, hfz67_3, hfz67_4, hfz67_5, hfz67_6⟩ := blk_all7 BK246.out) | ((with_reducible refine gC (f := 85) rfl ?_); refine gL (some 40) rfl rfl Try.func85 (by kernel_rfl) rfl #[.int .i64 a1_1, .int .i64 0, .int .i64 (wrap64 ((l0_6.length : Int) - 1))] rfl (by (try simp only [List.map_toArray, List.map_cons, List.map_nil]); first | done | rfl | (simp only [List.length_drop, List.length_take]; rfl)) ?_; (with_reducible refine (rules_within_int.calls a1_1 0 (wrap64 ((l0_6.length : Int) - 1)) true _ A16.out).mono ?_); rintro e w' ⟨rfl, ⟨nd, rfl⟩⟩; refine ⟨_, rfl, ?_⟩; (try (rw [drewN_self wc]; generalize hq_ : World.drewN wc _ = wc; have n0_ : A0s (wc.heap[gb246]? = some (.cells #[.int .i64 a0_0, .int .i64 a0_1, .int .i64 a0_2, .int .i64 a0_3, .slice A0_4 l0_4.length c0_4, .slice A0_5 l0_5.length c0_5, .slice A0_6 l0_6.length c0_6] 90 (0, 0))) := ⟨by rw [← hq_]; exact (by (with_reducible repeat (first | apply kN | apply kD | apply kA)); exact BK246.out)⟩; have n1_ : A0s (wc.heap[gb247]? = some (.cells #[.int .i64 a1_0, .int .i64 a1_1, .bool a1_2, .int .i64 a1_3, .int .i64 a1_4, .int .i64 a1_5, .int .i64 a1_6] 28 (0, 0))) := ⟨by rw [← hq_]; exact (by (with_reducible repeat (first | apply kN | apply kD | apply kA)); exact BK247.out)⟩; have n2_ : A0s (Below w.heap.size w wc) := ⟨by rw [← hq_]; exact (by repeat (first | (with_reducible first | exact HB.out | apply bA | apply bN | apply bD | refine bS ?_ GE246.out | refine bS ?_ GE247.out) | exact HB.out))⟩; clear BK246 BK247 HB hq_; have BK246 := n0_; have BK247 := n1_; have HB := n2_; clear n0_ n1_ n2_)); obtain ⟨hcz68_0, hcz68_1, hcz68_2, hcz68_3, hcz68_4, hcz68_5, hcz68_6, hfz68_0, hfz68_1, hfz68_2, hfz68_3, hfz68_4, hfz68_5, hfz68_6⟩ := blk_all7 BK246.out; obtain ⟨hcz69_0, hcz69_1, hcz69_2, hcz69_3, hcz69_4, hcz69_5, hcz69_6, hfz69_0, hfz69_1, hfz69_2, hfz69_3, hfz69_4, hfz69_5, hfz69_6⟩ := blk_all7 BK247.out; have p250 : 0 ≤ (a1_1 : Int) := of_decide_eq_true (by first | (with_reducible assumption) | assumption); have q250 : a1_1 < (l0_6.length : Int) := of_decide_eq_true (by first | (with_reducible assumption) | assumption); obtain ⟨ad250, e250, hx250_0, hx250_1, hx250_2, hx250_3⟩ := at_T147 HR0_6.out a1_1 p250 q250; cases e250; replace hx250_0 := (HB.out.cell (World.block_lt_of_cell? w _ hx250_0)).trans hx250_0; replace hx250_1 := (HB.out.cell (World.block_lt_of_cell? w _ hx250_1)).trans hx250_1; replace hx250_2 := (HB.out.cell (World.block_lt_of_cell? w _ hx250_2)).trans hx250_2; replace hx250_3 := (HB.out.cell (World.block_lt_of_cell? w _ hx250_3)).trans hx250_3; replace p250 := eq_true p250; replace q250 := eq_true q250) | ((with_reducible refine gate_dst (N := 6) rfl ?_); (try (refine gate_guard (by rfl) ?_; dsimp only)); refine box_event ?hg (N := 6) ?hd (cs := #[.int .i64 0, .int .i64 0, .int .i64 0, .float .f64 0]) (t := 147) ?hr ?_; (case hd => rfl); (case hg => rfl); (case hr => first | (go_simp; done) | (go_simp; rfl)); intro gb251 hg w70 hbox hb; have n0_ := A0s.mk (blk_below (g := gb246) (o := .cells #[.int .i64 a0_0, .int .i64 a0_1, .int .i64 a0_2, .int .i64 a0_3, .slice A0_4 l0_4.length c0_4, .slice A0_5 l0_5.length c0_5, .slice (some ad250) l0_6.length c0_6] 90 (0, 0)) (by (with_reducible repeat (first | apply kN | apply kD | apply kA)); exact BK246.out) hb); have n1_ := A0s.mk (blk_below (g := gb247) (o := .cells #[.int .i64 a1_0, .int .i64 a1_1, .bool a1_2, .int .i64 a1_3, .int .i64 a1_4, .int .i64 a1_5, .int .i64 a1_6] 28 (0, 0)) (by (with_reducible repeat (first | apply kN | apply kD | apply kA)); exact BK247.out) hb); have n2_ := A0s.mk (below_step (by repeat (first | (with_reducible first | exact HB.out | apply bA | apply bN | apply bD | refine bS ?_ GE246.out | refine bS ?_ GE247.out) | exact HB.out)) hb); have n3_ := A0s.mk (hbox); have n4_ := A0s.mk ((by rw [hg]; exact (below_size (by repeat (first | (with_reducible first | exact HB.out | apply bA | apply bN | apply bD | refine bS ?_ GE246.out | refine bS ?_ GE247.out) | exact HB.out))) : w.heap.size ≤ gb251)); have n5_ := A0s.mk ((by rw [hg]; exact (below_size (by repeat (first | (with_reducible first | exact HB.out | apply bA | apply bN | apply bD | refine bS ?_ GE246.out | refine bS ?_ GE247.out) | exact HB.out))) : w.heap.size ≤ gb251)); have n6_ := A0s.mk ((by rw [hg]; exact Nat.ne_of_lt (blk_lt (g := gb246) (o := .cells #[.int .i64 a0_0, .int .i64 a0_1, .int .i64 a0_2, .int .i64 a0_3, .slice A0_4 l0_4.length c0_4, .slice A0_5 l0_5.length c0_5, .slice (some ad250) l0_6.length c0_6] 90 (0, 0)) (by (with_reducible repeat (first | apply kN | apply kD | apply kA)); exact BK246.out)) : gb246 ≠ gb251)); have n7_ := A0s.mk ((by rw [hg]; exact Nat.ne_of_gt (blk_lt (g := gb246) (o := .cells #[.int .i64 a0_0, .int .i64 a0_1, .int .i64 a0_2, .int .i64 a0_3, .slice A0_4 l0_4.length c0_4, .slice A0_5 l0_5.length c0_5, .slice (some ad250) l0_6.length c0_6] 90 (0, 0)) (by (with_reducible repeat (first | apply kN | apply kD | apply kA)); exact BK246.out)) : gb251 ≠ gb246)); have n8_ := A0s.mk ((by rw [hg]; exact Nat.ne_of_lt (blk_lt (g := gb247) (o := .cells #[.int .i64 a1_0, .int .i64 a1_1, .bool a1_2, .int .i64 a1_3, .int .i64 a1_4, .int .i64 a1_5, .int .i64 a1_6] 28 (0, 0)) (by (with_reducible repeat (first | apply kN | apply kD | apply kA)); exact BK247.out)) : gb247 ≠ gb251)); have n9_ := A0s.mk ((by rw [hg]; exact Nat.ne_of_gt (blk_lt (g := gb247) (o := .cells #[.int .i64 a1_0, .int .i64 a1_1, .bool a1_2, .int .i64 a1_3, .int .i64 a1_4, .int .i64 a1_5, .int .i64 a1_6] 28 (0, 0)) (by (with_reducible repeat (first | apply kN | apply kD | apply kA)); exact BK247.out)) : gb251 ≠ gb247)); clear BK246; clear BK247; clear HB; have BK246 := n0_; have BK247 := n1_; have HB := n2_; have BK251 := n3_; have GW251 := n4_; have GE251 := n5_; have NB246_251 := n6_; have NB251_246 := n7_; have NB247_251 := n8_; have NB251_247 := n9_; clear n0_ n1_ n2_ n3_ n4_ n5_ n6_ n7_ n8_ n9_; clear hb hbox hg; have hnb71 := NB251_246.out; have hnc71 := NB246_251.out; have hnb72 := NB251_247.out; have hnc72 := NB247_251.out; obtain ⟨hcz73_0, hcz73_1, hcz73_2, hcz73_3, hfz73_0, hfz73_1, hfz73_2, hfz73_3⟩ := blk_all4 BK251.out; obtain ⟨hcz74_0, hcz74_1, hcz74_2, hcz74_3, hcz74_4, hcz74_5, hcz74_6, hfz74_0, hfz74_1, hfz74_2, hfz74_3, hfz74_4, hfz74_5, hfz74_6⟩ := blk_all7 BK247.out) | ((with_reducible refine gC (f := 93) rfl ?_); refine gL (some 53) rfl rfl Try.func93 (by kernel_rfl) rfl #[.int .i64 a1_3, .int .i64 a1_4] rfl (by (try simp only [List.map_toArray, List.map_cons, List.map_nil]); first | done | rfl | (simp only [List.length_drop, List.length_take]; rfl)) ?_; (with_reducible refine (fixed_Notional.calls kj2 a1_3 a1_4 t252 true _ A20.out).mono ?_); rintro e w' ⟨rfl, ⟨nd, rfl⟩⟩; refine ⟨_, rfl, ?_⟩) | ((with_reducible refine gC (f := 94) rfl ?_); refine gL (some 77) rfl rfl Try.func94 (by kernel_rfl) rfl #[.int .i64 ((rd_T147 l0_6 a1_1).f0), .int .i64 a1_3, .float .f64 ((rd_T147 l0_6 a1_1).f3)] rfl (by (try simp only [List.map_toArray, List.map_cons, List.map_nil]); first | done | rfl | (simp only [List.length_drop, List.length_take]; rfl)) ?_; (with_reducible refine (band_Within.calls ((rd_T147 l0_6 a1_1).f0) a1_3 ((rd_T147 l0_6 a1_1).f3) false _ A48.out).mono ?_); rintro e w75 ⟨rfl, hb⟩; refine ⟨_, rfl, ?_⟩; have n0_ := A0s.mk (blk_below (g := gb246) (o := .cells #[.int .i64 a0_0, .int .i64 a0_1, .int .i64 a0_2, .int .i64 a0_3, .slice A0_4 l0_4.length c0_4, .slice A0_5 l0_5.length c0_5, .slice (some ad250) l0_6.length c0_6] 90 (0, 0)) (by (with_reducible repeat (first | apply kN | apply kD | apply kA)); refine blk_far ?_ NB246_251.out _; (with_reducible repeat (first | apply kN | apply kD | apply kA)); refine blk_far ?_ NB246_251.out _; (with_reducible repeat (first | apply kN | apply kD | apply kA)); refine blk_far ?_ NB246_251.out _; (with_reducible repeat (first | apply kN | apply kD | apply kA)); refine blk_far ?_ NB246_251.out _; (with_reducible repeat (first | apply kN | apply kD | apply kA)); exact BK246.out) hb); have n1_ := A0s.mk (blk_below (g := gb247) (o := .cells #[.int .i64 a1_0, .int .i64 a1_1, .bool a1_2, .int .i64 a1_3, .int .i64 a1_4, .int .i64 a1_5, .int .i64 a1_6] 28 (0, 0)) (by (with_reducible repeat (first | apply kN | apply kD | apply kA)); refine blk_far ?_ NB247_251.out _; (with_reducible repeat (first | apply kN | apply kD | apply kA)); refine blk_far ?_ NB247_251.out _; (with_reducible repeat (first | apply kN | apply kD | apply kA)); refine blk_far ?_ NB247_251.out _; (with_reducible repeat (first | apply kN | apply kD | apply kA)); refine blk_far ?_ NB247_251.out _; (with_reducible repeat (first | apply kN | apply kD | apply kA)); exact BK247.out) hb); have n2_ := A0s.mk (blk_below (g := gb251) (o := .cells #[.int .i64 ((rd_T147 l0_6 a1_1).f0), .int .i64 ((rd_T147 l0_6 a1_1).f1), .int .i64 ((rd_T147 l0_6 a1_1).f2), .float .f64 ((rd_T147 l0_6 a1_1).f3)] 147 (0, 0)) (by (with_reducible repeat (first | apply kN | apply kD | apply kA)); refine blk_put (cs := #[.int .i64 ((rd_T147 l0_6 a1_1).f0), .int .i64 ((rd_T147 l0_6 a1_1).f1), .int .i64 ((rd_T147 l0_6 a1_1).f2), .float .f64 0]) ?_ 3 _ rfl; (with_reducible repeat (first | apply kN | apply kD | apply kA)); refine blk_put (cs := #[.int .i64 ((rd_T147 l0_6 a1_1).f0), .int .i64 ((rd_T147 l0_6 a1_1).f1), .int .i64 0, .float .f64 0]) ?_ 2 _ rfl; (with_reducible repeat (first | apply kN | apply kD | apply kA)); refine blk_put (cs := #[.int .i64 ((rd_T147 l0_6 a1_1).f0), .int .i64 0, .int .i64 0, .float .f64 0]) ?_ 1 _ rfl; (with_reducible repeat (first | apply kN | apply kD | apply kA)); refine blk_put (cs := #[.int .i64 0, .int .i64 0, .int .i64 0, .float .f64 0]) ?_ 0 _ rfl; (with_reducible repeat (first | apply kN | apply kD | apply kA)); exact BK251.out) hb); have n3_ := A0s.mk (below_step (by repeat (first | (with_reducible first | exact HB.out | apply bA | apply bN | apply bD | refine bS ?_ GE246.out | refine bS ?_ GE247.out | refine bS ?_ GE251.out) | exact HB.out)) hb); clear BK246; clear BK247; clear BK251; clear HB; have BK246 := n0_; have BK247 := n1_; have BK251 := n2_; have HB := n3_; clear n0_ n1_ n2_ n3_; (try clear hb); (try clear hb2); (try clear hk); (try clear hi)))
            go_ret2
            exact ⟨by first | rfl | (simp [errW_none, errW_some] <;> rfl) | (simp [*, errW_none, errW_some] <;> rfl), by repeat (first | (with_reducible first | exact HB.out | apply bA | apply bN | apply bD | refine bS ?_ GE246.out | refine bS ?_ GE247.out | refine bS ?_ GE251.out) | exact HB.out)⟩
         ·replace c34 := Bool.eq_false_iff.mpr c34
          subst c34
          have H1 : (some (6, 0)) = some (r1, r2) := by rw [if_neg (show ¬ (false = true) by decide)] at H; exact H
          clear H
          have H := H1
          clear H1
          simp only [Option.some.injEq, Prod.mk.injEq] at H
          obtain ⟨rfl, rfl⟩ := H
          have hnb76 := NB247_246.out
          have hnc76 := NB246_247.out
          obtain ⟨hcz77_0, hcz77_1, hcz77_2, hcz77_3, hcz77_4, hcz77_5, hcz77_6, hfz77_0, hfz77_1, hfz77_2, hfz77_3, hfz77_4, hfz77_5, hfz77_6⟩ := blk_all7 BK247.out
          obtain ⟨hcz78_0, hcz78_1, hcz78_2, hcz78_3, hcz78_4, hcz78_5, hcz78_6, hfz78_0, hfz78_1, hfz78_2, hfz78_3, hfz78_4, hfz78_5, hfz78_6⟩ := blk_all7 BK246.out
          go_wp2_with (first | ((with_reducible refine gC (f := 85) rfl ?_); refine gL (some 31) rfl rfl Try.func85 (by kernel_rfl) rfl #[.int .i64 a1_0, .int .i64 0, .int .i64 (wrap64 ((l0_5.length : Int) - 1))] rfl (by (try simp only [List.map_toArray, List.map_cons, List.map_nil]); first | done | rfl | (simp only [List.length_drop, List.length_take]; rfl)) ?_; (with_reducible refine (rules_within_int.calls a1_0 0 (wrap64 ((l0_5.length : Int) - 1)) true _ A14.out).mono ?_); rintro e w' ⟨rfl, ⟨nd, rfl⟩⟩; refine ⟨_, rfl, ?_⟩; (try (rw [drewN_self wc]; generalize hq_ : World.drewN wc _ = wc; have n0_ : A0s (wc.heap[gb246]? = some (.cells #[.int .i64 a0_0, .int .i64 a0_1, .int .i64 a0_2, .int .i64 a0_3, .slice A0_4 l0_4.length c0_4, .slice A0_5 l0_5.length c0_5, .slice A0_6 l0_6.length c0_6] 90 (0, 0))) := ⟨by rw [← hq_]; exact (by (with_reducible repeat (first | apply kN | apply kD | apply kA)); exact BK246.out)⟩; have n1_ : A0s (wc.heap[gb247]? = some (.cells #[.int .i64 a1_0, .int .i64 a1_1, .bool a1_2, .int .i64 a1_3, .int .i64 a1_4, .int .i64 a1_5, .int .i64 a1_6] 28 (0, 0))) := ⟨by rw [← hq_]; exact (by (with_reducible repeat (first | apply kN | apply kD | apply kA)); exact BK247.out)⟩; have n2_ : A0s (Below w.heap.size w wc) := ⟨by rw [← hq_]; exact (by repeat (first | (with_reducible first | exact HB.out | apply bA | apply bN | apply bD | refine bS ?_ GE246.out | refine bS ?_ GE247.out) | exact HB.out))⟩; clear BK246 BK247 HB hq_; have BK246 := n0_; have BK247 := n1_; have HB := n2_; clear n0_ n1_ n2_)); obtain ⟨hcz79_0, hcz79_1, hcz79_2, hcz79_3, hcz79_4, hcz79_5, hcz79_6, hfz79_0, hfz79_1, hfz79_2, hfz79_3, hfz79_4, hfz79_5, hfz79_6⟩ := blk_all7 BK247.out; obtain ⟨hcz80_0, hcz80_1, hcz80_2, hcz80_3, hcz80_4, hcz80_5, hcz80_6, hfz80_0, hfz80_1, hfz80_2, hfz80_3, hfz80_4, hfz80_5, hfz80_6⟩ := blk_all7 BK246.out) | ((with_reducible refine gC (f := 85) rfl ?_); refine gL (some 40) rfl rfl Try.func85 (by kernel_rfl) rfl #[.int .i64 a1_1, .int .i64 0, .int .i64 (wrap64 ((l0_6.length : Int) - 1))] rfl (by (try simp only [List.map_toArray, List.map_cons, List.map_nil]); first | done | rfl | (simp only [List.length_drop, List.length_take]; rfl)) ?_; (with_reducible refine (rules_within_int.calls a1_1 0 (wrap64 ((l0_6.length : Int) - 1)) true _ A16.out).mono ?_); rintro e w' ⟨rfl, ⟨nd, rfl⟩⟩; refine ⟨_, rfl, ?_⟩; (try (rw [drewN_self wc]; generalize hq_ : World.drewN wc _ = wc; have n0_ : A0s (wc.heap[gb246]? = some (.cells #[.int .i64 a0_0, .int .i64 a0_1, .int .i64 a0_2, .int .i64 a0_3, .slice A0_4 l0_4.length c0_4, .slice A0_5 l0_5.length c0_5, .slice A0_6 l0_6.length c0_6] 90 (0, 0))) := ⟨by rw [← hq_]; exact (by (with_reducible repeat (first | apply kN | apply kD | apply kA)); exact BK246.out)⟩; have n1_ : A0s (wc.heap[gb247]? = some (.cells #[.int .i64 a1_0, .int .i64 a1_1, .bool a1_2, .int .i64 a1_3, .int .i64 a1_4, .int .i64 a1_5, .int .i64 a1_6] 28 (0, 0))) := ⟨by rw [← hq_]; exact (by (with_reducible repeat (first | apply kN | apply kD | apply kA)); exact BK247.out)⟩; have n2_ : A0s (Below w.heap.size w wc) := ⟨by rw [← hq_]; exact (by repeat (first | (with_reducible first | exact HB.out | apply bA | apply bN | apply bD | refine bS ?_ GE246.out | refine bS ?_ GE247.out) | exact HB.out))⟩; clear BK246 BK247 HB hq_; have BK246 := n0_; have BK247 := n1_; have HB := n2_; clear n0_ n1_ n2_)); obtain ⟨hcz81_0, hcz81_1, hcz81_2, hcz81_3, hcz81_4, hcz81_5, hcz81_6, hfz81_0, hfz81_1, hfz81_2, hfz81_3, hfz81_4, hfz81_5, hfz81_6⟩ := blk_all7 BK246.out; obtain ⟨hcz82_0, hcz82_1, hcz82_2, hcz82_3, hcz82_4, hcz82_5, hcz82_6, hfz82_0, hfz82_1, hfz82_2, hfz82_3, hfz82_4, hfz82_5, hfz82_6⟩ := blk_all7 BK247.out; have p250 : 0 ≤ (a1_1 : Int) := of_decide_eq_true (by first | (with_reducible assumption) | assumption); have q250 : a1_1 < (l0_6.length : Int) := of_decide_eq_true (by first | (with_reducible assumption) | assumption); obtain ⟨ad250, e250, hx250_0, hx250_1, hx250_2, hx250_3⟩ := at_T147 HR0_6.out a1_1 p250 q250; cases e250; replace hx250_0 := (HB.out.cell (World.block_lt_of_cell? w _ hx250_0)).trans hx250_0; replace hx250_1 := (HB.out.cell (World.block_lt_of_cell? w _ hx250_1)).trans hx250_1; replace hx250_2 := (HB.out.cell (World.block_lt_of_cell? w _ hx250_2)).trans hx250_2; replace hx250_3 := (HB.out.cell (World.block_lt_of_cell? w _ hx250_3)).trans hx250_3; replace p250 := eq_true p250; replace q250 := eq_true q250) | ((with_reducible refine gate_dst (N := 6) rfl ?_); (try (refine gate_guard (by rfl) ?_; dsimp only)); refine box_event ?hg (N := 6) ?hd (cs := #[.int .i64 0, .int .i64 0, .int .i64 0, .float .f64 0]) (t := 147) ?hr ?_; (case hd => rfl); (case hg => rfl); (case hr => first | (go_simp; done) | (go_simp; rfl)); intro gb251 hg w83 hbox hb; have n0_ := A0s.mk (blk_below (g := gb246) (o := .cells #[.int .i64 a0_0, .int .i64 a0_1, .int .i64 a0_2, .int .i64 a0_3, .slice A0_4 l0_4.length c0_4, .slice A0_5 l0_5.length c0_5, .slice (some ad250) l0_6.length c0_6] 90 (0, 0)) (by (with_reducible repeat (first | apply kN | apply kD | apply kA)); exact BK246.out) hb); have n1_ := A0s.mk (blk_below (g := gb247) (o := .cells #[.int .i64 a1_0, .int .i64 a1_1, .bool a1_2, .int .i64 a1_3, .int .i64 a1_4, .int .i64 a1_5, .int .i64 a1_6] 28 (0, 0)) (by (with_reducible repeat (first | apply kN | apply kD | apply kA)); exact BK247.out) hb); have n2_ := A0s.mk (below_step (by repeat (first | (with_reducible first | exact HB.out | apply bA | apply bN | apply bD | refine bS ?_ GE246.out | refine bS ?_ GE247.out) | exact HB.out)) hb); have n3_ := A0s.mk (hbox); have n4_ := A0s.mk ((by rw [hg]; exact (below_size (by repeat (first | (with_reducible first | exact HB.out | apply bA | apply bN | apply bD | refine bS ?_ GE246.out | refine bS ?_ GE247.out) | exact HB.out))) : w.heap.size ≤ gb251)); have n5_ := A0s.mk ((by rw [hg]; exact (below_size (by repeat (first | (with_reducible first | exact HB.out | apply bA | apply bN | apply bD | refine bS ?_ GE246.out | refine bS ?_ GE247.out) | exact HB.out))) : w.heap.size ≤ gb251)); have n6_ := A0s.mk ((by rw [hg]; exact Nat.ne_of_lt (blk_lt (g := gb246) (o := .cells #[.int .i64 a0_0, .int .i64 a0_1, .int .i64 a0_2, .int .i64 a0_3, .slice A0_4 l0_4.length c0_4, .slice A0_5 l0_5.length c0_5, .slice (some ad250) l0_6.length c0_6] 90 (0, 0)) (by (with_reducible repeat (first | apply kN | apply kD | apply kA)); exact BK246.out)) : gb246 ≠ gb251)); have n7_ := A0s.mk ((by rw [hg]; exact Nat.ne_of_gt (blk_lt (g := gb246) (o := .cells #[.int .i64 a0_0, .int .i64 a0_1, .int .i64 a0_2, .int .i64 a0_3, .slice A0_4 l0_4.length c0_4, .slice A0_5 l0_5.length c0_5, .slice (some ad250) l0_6.length c0_6] 90 (0, 0)) (by (with_reducible repeat (first | apply kN | apply kD | apply kA)); exact BK246.out)) : gb251 ≠ gb246)); have n8_ := A0s.mk ((by rw [hg]; exact Nat.ne_of_lt (blk_lt (g := gb247) (o := .cells #[.int .i64 a1_0, .int .i64 a1_1, .bool a1_2, .int .i64 a1_3, .int .i64 a1_4, .int .i64 a1_5, .int .i64 a1_6] 28 (0, 0)) (by (with_reducible repeat (first | apply kN | apply kD | apply kA)); exact BK247.out)) : gb247 ≠ gb251)); have n9_ := A0s.mk ((by rw [hg]; exact Nat.ne_of_gt (blk_lt (g := gb247) (o := .cells #[.int .i64 a1_0, .int .i64 a1_1, .bool a1_2, .int .i64 a1_3, .int .i64 a1_4, .int .i64 a1_5, .int .i64 a1_6] 28 (0, 0)) (by (with_reducible repeat (first | apply kN | apply kD | apply kA)); exact BK247.out)) : gb251 ≠ gb247)); clear BK246; clear BK247; clear HB; have BK246 := n0_; have BK247 := n1_; have HB := n2_; have BK251 := n3_; have GW251 := n4_; have GE251 := n5_; have NB246_251 := n6_; have NB251_246 := n7_; have NB247_251 := n8_; have NB251_247 := n9_; clear n0_ n1_ n2_ n3_ n4_ n5_ n6_ n7_ n8_ n9_; clear hb hbox hg; have hnb84 := NB251_246.out; have hnc84 := NB246_251.out; have hnb85 := NB251_247.out; have hnc85 := NB247_251.out; obtain ⟨hcz86_0, hcz86_1, hcz86_2, hcz86_3, hfz86_0, hfz86_1, hfz86_2, hfz86_3⟩ := blk_all4 BK251.out; obtain ⟨hcz87_0, hcz87_1, hcz87_2, hcz87_3, hcz87_4, hcz87_5, hcz87_6, hfz87_0, hfz87_1, hfz87_2, hfz87_3, hfz87_4, hfz87_5, hfz87_6⟩ := blk_all7 BK247.out) | ((with_reducible refine gC (f := 93) rfl ?_); refine gL (some 53) rfl rfl Try.func93 (by kernel_rfl) rfl #[.int .i64 a1_3, .int .i64 a1_4] rfl (by (try simp only [List.map_toArray, List.map_cons, List.map_nil]); first | done | rfl | (simp only [List.length_drop, List.length_take]; rfl)) ?_; (with_reducible refine (fixed_Notional.calls kj2 a1_3 a1_4 t252 false _ A20.out).mono ?_); rintro e w' ⟨rfl, ⟨nd, rfl⟩⟩; refine ⟨_, rfl, ?_⟩))
          go_ret2
          exact ⟨by first | rfl | (simp [errW_none, errW_some] <;> rfl) | (simp [*, errW_none, errW_some] <;> rfl), by repeat (first | (with_reducible first | exact HB.out | apply bA | apply bN | apply bD | refine bS ?_ GE246.out | refine bS ?_ GE247.out | refine bS ?_ GE251.out) | exact HB.out)⟩
       ·rw [if_neg c19] at H
        exact absurd H (by simp)
      ·rw [if_neg c18] at H
       exact absurd H (by simp)
     ·replace c17 := Bool.eq_false_iff.mpr c17
      subst c17
      have H1 : (some (4, 0)) = some (r1, r2) := by rw [if_neg (show ¬ (false = true) by decide)] at H; exact H
      clear H
      have H := H1
      clear H1
      simp only [Option.some.injEq, Prod.mk.injEq] at H
      obtain ⟨rfl, rfl⟩ := H
      have hnb88 := NB247_246.out
      have hnc88 := NB246_247.out
      obtain ⟨hcz89_0, hcz89_1, hcz89_2, hcz89_3, hcz89_4, hcz89_5, hcz89_6, hfz89_0, hfz89_1, hfz89_2, hfz89_3, hfz89_4, hfz89_5, hfz89_6⟩ := blk_all7 BK247.out
      obtain ⟨hcz90_0, hcz90_1, hcz90_2, hcz90_3, hcz90_4, hcz90_5, hcz90_6, hfz90_0, hfz90_1, hfz90_2, hfz90_3, hfz90_4, hfz90_5, hfz90_6⟩ := blk_all7 BK246.out
      go_wp2_with (first | ((with_reducible refine gC (f := 85) rfl ?_); refine gL (some 31) rfl rfl Try.func85 (by kernel_rfl) rfl #[.int .i64 a1_0, .int .i64 0, .int .i64 (wrap64 ((l0_5.length : Int) - 1))] rfl (by (try simp only [List.map_toArray, List.map_cons, List.map_nil]); first | done | rfl | (simp only [List.length_drop, List.length_take]; rfl)) ?_; (with_reducible refine (rules_within_int.calls a1_0 0 (wrap64 ((l0_5.length : Int) - 1)) true _ A14.out).mono ?_); rintro e w' ⟨rfl, ⟨nd, rfl⟩⟩; refine ⟨_, rfl, ?_⟩) | ((with_reducible refine gC (f := 85) rfl ?_); refine gL (some 40) rfl rfl Try.func85 (by kernel_rfl) rfl #[.int .i64 a1_1, .int .i64 0, .int .i64 (wrap64 ((l0_6.length : Int) - 1))] rfl (by (try simp only [List.map_toArray, List.map_cons, List.map_nil]); first | done | rfl | (simp only [List.length_drop, List.length_take]; rfl)) ?_; (with_reducible refine (rules_within_int.calls a1_1 0 (wrap64 ((l0_6.length : Int) - 1)) false _ A16.out).mono ?_); rintro e w' ⟨rfl, ⟨nd, rfl⟩⟩; refine ⟨_, rfl, ?_⟩))
      go_ret2
      exact ⟨by first | rfl | (simp [errW_none, errW_some] <;> rfl) | (simp [*, errW_none, errW_some] <;> rfl), by repeat (first | (with_reducible first | exact HB.out | apply bA | apply bN | apply bD | refine bS ?_ GE246.out | refine bS ?_ GE247.out) | exact HB.out)⟩
    ·replace c15 := Bool.eq_false_iff.mpr c15
     subst c15
     have H1 : (some (3, 0)) = some (r1, r2) := by rw [if_neg (show ¬ (false = true) by decide)] at H; exact H
     clear H
     have H := H1
     clear H1
     simp only [Option.some.injEq, Prod.mk.injEq] at H
     obtain ⟨rfl, rfl⟩ := H
     have hnb91 := NB247_246.out
     have hnc91 := NB246_247.out
     obtain ⟨hcz92_0, hcz92_1, hcz92_2, hcz92_3, hcz92_4, hcz92_5, hcz92_6, hfz92_0, hfz92_1, hfz92_2, hfz92_3, hfz92_4, hfz92_5, hfz92_6⟩ := blk_all7 BK247.out
     obtain ⟨hcz93_0, hcz93_1, hcz93_2, hcz93_3, hcz93_4, hcz93_5, hcz93_6, hfz93_0, hfz93_1, hfz93_2, hfz93_3, hfz93_4, hfz93_5, hfz93_6⟩ := blk_all7 BK246.out
     go_wp2_with (first | ((with_reducible refine gC (f := 85) rfl ?_); refine gL (some 31) rfl rfl Try.func85 (by kernel_rfl) rfl #[.int .i64 a1_0, .int .i64 0, .int .i64 (wrap64 ((l0_5.length : Int) - 1))] rfl (by (try simp only [List.map_toArray, List.map_cons, List.map_nil]); first | done | rfl | (simp only [List.length_drop, List.length_take]; rfl)) ?_; (with_reducible refine (rules_within_int.calls a1_0 0 (wrap64 ((l0_5.length : Int) - 1)) false _ A14.out).mono ?_); rintro e w' ⟨rfl, ⟨nd, rfl⟩⟩; refine ⟨_, rfl, ?_⟩))
     go_ret2
     exact ⟨by first | rfl | (simp [errW_none, errW_some] <;> rfl) | (simp [*, errW_none, errW_some] <;> rfl), by repeat (first | (with_reducible first | exact HB.out | apply bA | apply bN | apply bD | refine bS ?_ GE246.out | refine bS ?_ GE247.out) | exact HB.out)⟩

/-! ### rules_Shard: function 55 -/
def rules_Shard.f (a0_0 : Int) (a0_1 : Int) (a0_2 : Int) (a0_3 : Int) (l0_4 : List (S178)) (l0_5 : List Int) (l0_6 : List (S147)) (a1 : Int) : Option (Int) := if a0_0 < 1 then (some (-1)) else ((rules_within_int.f a1 0 (wrap64 ((l0_5.length : Int) - 1))).bind fun t256 => (if t256 = true then (if a0_0 = 0 then (none) else (some (Int.tmod a1 a0_0))) else (some (-1))))
set_option maxHeartbeats 8000000 in
set_option maxRecDepth 100000 in
theorem rules_Shard.calls (a0_0 : Int) (a0_1 : Int) (a0_2 : Int) (a0_3 : Int) (A0_4 : Option Addr) (c0_4 : Nat) (l0_4 : List (S178)) (A0_5 : Option Addr) (c0_5 : Nat) (l0_5 : List Int) (A0_6 : Option Addr) (c0_6 : Nat) (l0_6 : List (S147)) (a1 : Int) (r : Int) (w : World) (hr0_4 : Kd.C k178 w A0_4 l0_4.length l0_4) (hc0_4 : l0_4.length ≤ c0_4) (hr0_5 : Kd.C (Kd.int .i64) w A0_5 l0_5.length l0_5) (hc0_5 : l0_5.length ≤ c0_5) (hr0_6 : Kd.C k147 w A0_6 l0_6.length l0_6) (hc0_6 : l0_6.length ≤ c0_6) (h : rules_Shard.f a0_0 a0_1 a0_2 a0_3 l0_4 l0_5 l0_6 a1 = some r) :
  Calls Try.prog 55 #[.agg #[.int .i64 a0_0, .int .i64 a0_1, .int .i64 a0_2, .int .i64 a0_3, .slice A0_4 l0_4.length c0_4, .slice A0_5 l0_5.length c0_5, .slice A0_6 l0_6.length c0_6], .int .i64 a1] w fun e w' => e = .returned (.int .i64 r) ∧ Below w.heap.size w w' := by
 have hu90 := Try.underlying90
 have HR0_4 := A0s.mk hr0_4
 have HC0_4 := A0s.mk hc0_4
 clear hr0_4 hc0_4
 have HR0_5 := A0s.mk hr0_5
 have HC0_5 := A0s.mk hc0_5
 clear hr0_5 hc0_5
 have HR0_6 := A0s.mk hr0_6
 have HC0_6 := A0s.mk hc0_6
 clear hr0_6 hc0_6
 have HB := A0s.mk (Below.refl w.heap.size w)
 have H : (if a0_0 < 1 then (some (-1)) else ((rules_within_int.f a1 0 (wrap64 ((l0_5.length : Int) - 1))).bind fun t256 => (if t256 = true then (if a0_0 = 0 then (none) else (some (Int.tmod a1 a0_0))) else (some (-1))))) = some r := h
 clear h
 by_cases c3 : a0_0 < 1
 ·rw [if_pos c3] at H
  have c3b0 : decide (a0_0 < 1) = true := decide_eq_true c3
  clear c3
  obtain rfl := Option.some.inj H
  go_enter Try.func55, Try.ntmps55
  go_wp2_with (first | ((with_reducible refine gate_dst (N := 2) rfl ?_); (try (refine gate_guard (by rfl) ?_; dsimp only)); refine box_event ?hg (N := 2) ?hd (cs := #[.int .i64 a0_0, .int .i64 a0_1, .int .i64 a0_2, .int .i64 a0_3, .slice A0_4 l0_4.length c0_4, .slice A0_5 l0_5.length c0_5, .slice A0_6 l0_6.length c0_6]) (t := 90) ?hr ?_; (case hd => rfl); (case hg => rfl); (case hr => first | (go_simp; done) | (go_simp; rfl)); intro gb255 hg w4 hbox hb; have n0_ := A0s.mk (below_step (by repeat (first | (with_reducible first | exact HB.out | apply bA | apply bN | apply bD) | exact HB.out)) hb); have n1_ := A0s.mk (hbox); have n2_ := A0s.mk ((by rw [hg]; exact (below_size (by repeat (first | (with_reducible first | exact HB.out | apply bA | apply bN | apply bD) | exact HB.out))) : w.heap.size ≤ gb255)); have n3_ := A0s.mk ((by rw [hg]; exact (below_size (by repeat (first | (with_reducible first | exact HB.out | apply bA | apply bN | apply bD) | exact HB.out))) : w.heap.size ≤ gb255)); clear HB; have HB := n0_; have BK255 := n1_; have GW255 := n2_; have GE255 := n3_; clear n0_ n1_ n2_ n3_; clear hb hbox hg; obtain ⟨hcz5_0, hcz5_1, hcz5_2, hcz5_3, hcz5_4, hcz5_5, hcz5_6, hfz5_0, hfz5_1, hfz5_2, hfz5_3, hfz5_4, hfz5_5, hfz5_6⟩ := blk_all7 BK255.out))
  go_ret
  exact ⟨by first | rfl | (simp [errW_none, errW_some] <;> rfl) | (simp [*, errW_none, errW_some] <;> rfl), by repeat (first | (with_reducible first | exact HB.out | apply bA | apply bN | apply bD | refine bS ?_ GE255.out) | exact HB.out)⟩
 ·rw [if_neg c3] at H
  have c3b0 : decide (a0_0 < 1) = false := decide_eq_false c3
  clear c3
  replace H := Option.bind_eq_some_iff.mp H
  obtain ⟨t256, A60, H⟩ := H
  replace H : (if t256 = true then (if a0_0 = 0 then (none) else (some (Int.tmod a1 a0_0))) else (some (-1))) = some r := H
  have A6 := A0s.mk A60
  clear A60
  by_cases c7 : t256 = true
  ·subst c7
   have H1 : (if a0_0 = 0 then (none) else (some (Int.tmod a1 a0_0))) = some r := by rw [if_pos rfl] at H; exact H
   clear H
   have H := H1
   clear H1
   by_cases c8 : a0_0 = 0
   ·rw [if_pos c8] at H
    exact absurd H (by simp)
   ·rw [if_neg c8] at H
    have c8b0 : (a0_0 == 0) = false := beq_eq_false_iff_ne.mpr c8
    have c8b1 : (a0_0 != 0) = true := bne_iff_ne.mpr c8
    obtain rfl := Option.some.inj H
    go_enter Try.func55, Try.ntmps55
    go_wp2_with (first | ((with_reducible refine gate_dst (N := 2) rfl ?_); (try (refine gate_guard (by rfl) ?_; dsimp only)); refine box_event ?hg (N := 2) ?hd (cs := #[.int .i64 a0_0, .int .i64 a0_1, .int .i64 a0_2, .int .i64 a0_3, .slice A0_4 l0_4.length c0_4, .slice A0_5 l0_5.length c0_5, .slice A0_6 l0_6.length c0_6]) (t := 90) ?hr ?_; (case hd => rfl); (case hg => rfl); (case hr => first | (go_simp; done) | (go_simp; rfl)); intro gb255 hg w9 hbox hb; have n0_ := A0s.mk (below_step (by repeat (first | (with_reducible first | exact HB.out | apply bA | apply bN | apply bD) | exact HB.out)) hb); have n1_ := A0s.mk (hbox); have n2_ := A0s.mk ((by rw [hg]; exact (below_size (by repeat (first | (with_reducible first | exact HB.out | apply bA | apply bN | apply bD) | exact HB.out))) : w.heap.size ≤ gb255)); have n3_ := A0s.mk ((by rw [hg]; exact (below_size (by repeat (first | (with_reducible first | exact HB.out | apply bA | apply bN | apply bD) | exact HB.out))) : w.heap.size ≤ gb255)); clear HB; have HB := n0_; have BK255 := n1_; have GW255 := n2_; have GE255 := n3_; clear n0_ n1_ n2_ n3_; clear hb hbox hg; obtain ⟨hcz10_0, hcz10_1, hcz10_2, hcz10_3, hcz10_4, hcz10_5, hcz10_6, hfz10_0, hfz10_1, hfz10_2, hfz10_3, hfz10_4, hfz10_5, hfz10_6⟩ := blk_all7 BK255.out) | (go_at_call 85; (with_reducible refine (rules_within_int.calls a1 0 (wrap64 ((l0_5.length : Int) - 1)) true _ A6.out).mono ?_); rintro e w' ⟨rfl, ⟨nd, rfl⟩⟩))
    go_ret
    exact ⟨by first | rfl | (simp [errW_none, errW_some] <;> rfl) | (simp [*, errW_none, errW_some] <;> rfl), by repeat (first | (with_reducible first | exact HB.out | apply bA | apply bN | apply bD | refine bS ?_ GE255.out) | exact HB.out)⟩
  ·replace c7 := Bool.eq_false_iff.mpr c7
   subst c7
   have H1 : (some (-1)) = some r := by rw [if_neg (show ¬ (false = true) by decide)] at H; exact H
   clear H
   have H := H1
   clear H1
   obtain rfl := Option.some.inj H
   go_enter Try.func55, Try.ntmps55
   go_wp2_with (first | ((with_reducible refine gate_dst (N := 2) rfl ?_); (try (refine gate_guard (by rfl) ?_; dsimp only)); refine box_event ?hg (N := 2) ?hd (cs := #[.int .i64 a0_0, .int .i64 a0_1, .int .i64 a0_2, .int .i64 a0_3, .slice A0_4 l0_4.length c0_4, .slice A0_5 l0_5.length c0_5, .slice A0_6 l0_6.length c0_6]) (t := 90) ?hr ?_; (case hd => rfl); (case hg => rfl); (case hr => first | (go_simp; done) | (go_simp; rfl)); intro gb255 hg w11 hbox hb; have n0_ := A0s.mk (below_step (by repeat (first | (with_reducible first | exact HB.out | apply bA | apply bN | apply bD) | exact HB.out)) hb); have n1_ := A0s.mk (hbox); have n2_ := A0s.mk ((by rw [hg]; exact (below_size (by repeat (first | (with_reducible first | exact HB.out | apply bA | apply bN | apply bD) | exact HB.out))) : w.heap.size ≤ gb255)); have n3_ := A0s.mk ((by rw [hg]; exact (below_size (by repeat (first | (with_reducible first | exact HB.out | apply bA | apply bN | apply bD) | exact HB.out))) : w.heap.size ≤ gb255)); clear HB; have HB := n0_; have BK255 := n1_; have GW255 := n2_; have GE255 := n3_; clear n0_ n1_ n2_ n3_; clear hb hbox hg; obtain ⟨hcz12_0, hcz12_1, hcz12_2, hcz12_3, hcz12_4, hcz12_5, hcz12_6, hfz12_0, hfz12_1, hfz12_2, hfz12_3, hfz12_4, hfz12_5, hfz12_6⟩ := blk_all7 BK255.out) | (go_at_call 85; (with_reducible refine (rules_within_int.calls a1 0 (wrap64 ((l0_5.length : Int) - 1)) false _ A6.out).mono ?_); rintro e w' ⟨rfl, ⟨nd, rfl⟩⟩))
   go_ret
   exact ⟨by first | rfl | (simp [errW_none, errW_some] <;> rfl) | (simp [*, errW_none, errW_some] <;> rfl), by repeat (first | (with_reducible first | exact HB.out | apply bA | apply bN | apply bD | refine bS ?_ GE255.out) | exact HB.out)⟩

end Go.Proofs.Ytgikjgekdeaneaa.QRulesLooks
