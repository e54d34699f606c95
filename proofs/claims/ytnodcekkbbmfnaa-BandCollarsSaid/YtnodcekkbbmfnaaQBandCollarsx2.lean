/- Printed by wip/gen/myprint.py, a program of this session, for this claim: functions of the program as Lean functions, each with a proof that the Go code comes to its answers. -/
import Derived.Test.YtnodcekkbbmfnaaQBandCollarsx0
import Derived.Test.YtnodcekkbbmfnaaQBandCollarsx1
namespace Go.Proofs.Ytnodcekkbbmfnaa.QBandCollars
open Go.RowKit Go.Proofs.YtnodcekkbbmfnaaW.PrintWords Go.Proofs.YtnodcekkbbmfnaaW.PrintLast Go.Proofs.YtnodcekkbbmfnaaW.PrintMore
attribute [local go_sem] max2_int min2_int max_two min_two max_three min_three max_four min_four   -- for this text's walks alone
set_option linter.unusedVariables false
set_option linter.unusedSimpArgs false

/-! ### stopgatelaw02_BandCollars: function 9 -/
def stopgatelaw02_BandCollars.f (a0 : Int) (a1 : Int) (a2 : Int) : Option (Bool) := (band_Collar.f a0 a1.toNat).bind fun bt135 => ((stopgateref02_Collar.f a0 a1.toNat).bind fun bt138 => ((stopgatelaw02_told.f).bind fun t141 => (if t141 = true then (if bt135.1 = bt138.1 then (if bt135.2.1 = bt138.2.1 then (if (bt135.2.2 != bt138.2.2) = true then (none) else ((band_Right.f a1.toNat).bind fun t142 => ((stopgateref02_Right.f a1.toNat).bind fun t143 => (if (t142 != t143) = true then (none) else ((band_Within.f a0 a2 a1.toNat).bind fun t144 => ((stopgateref02_Within.f a0 a2 a1.toNat).bind fun t145 => (if (t144 != t145) = true then (none) else (if bt135.2.2 = true then ((band_Within.f a0 a0 a1.toNat).bind fun t146 => (if t146 = true then ((band_Within.f a0 bt135.1 a1.toNat).bind fun t147 => (if t147 = true then ((band_Within.f a0 bt135.2.1 a1.toNat).bind fun t148 => (if t148 = true then ((band_Within.f a0 (wrap64 (bt135.1 - 1)) a1.toNat).bind fun t149 => (if t149 = true then (none) else ((band_Within.f a0 (wrap64 (bt135.2.1 + 1)) a1.toNat).bind fun t150 => (some (!t150))))) else (none))) else (none))) else (none))) else (some true))))))))) else (none)) else (none)) else (none))))
set_option maxHeartbeats 8000000 in
set_option maxRecDepth 100000 in
theorem stopgatelaw02_BandCollars.calls (a0 : Int) (a1 : Int) (a2 : Int) (r : Bool) (w : World) (h : stopgatelaw02_BandCollars.f a0 a1 a2 = some r) :
  Calls Try.prog 9 #[.int .i64 a0, .int .u64 a1, .int .i64 a2] w fun e w' => e = .returned (.bool r) ∧ Below w.heap.size w w' := by
 have hx33 : ∀ (n_ : Int) (w_ : World), (callFunc 33 #[.int .u64 n_]).run Try.prog w_ = .ok (.value (.float .f64 n_.toNat)) w_ := fun n_ w_ => (run_callFunc_extern (e := Extern.MathFloatBits.float64frombits) Try.func33 (by kernel_rfl) (by kernel_rfl) (by kernel_rfl) (by kernel_rfl) _ w_).trans rfl
 have HB := Aside0.mk (Below.refl w.heap.size w)
 have H : ((band_Collar.f a0 a1.toNat).bind fun bt135 => ((stopgateref02_Collar.f a0 a1.toNat).bind fun bt138 => ((stopgatelaw02_told.f).bind fun t141 => (if t141 = true then (if bt135.1 = bt138.1 then (if bt135.2.1 = bt138.2.1 then (if (bt135.2.2 != bt138.2.2) = true then (none) else ((band_Right.f a1.toNat).bind fun t142 => ((stopgateref02_Right.f a1.toNat).bind fun t143 => (if (t142 != t143) = true then (none) else ((band_Within.f a0 a2 a1.toNat).bind fun t144 => ((stopgateref02_Within.f a0 a2 a1.toNat).bind fun t145 => (if (t144 != t145) = true then (none) else (if bt135.2.2 = true then ((band_Within.f a0 a0 a1.toNat).bind fun t146 => (if t146 = true then ((band_Within.f a0 bt135.1 a1.toNat).bind fun t147 => (if t147 = true then ((band_Within.f a0 bt135.2.1 a1.toNat).bind fun t148 => (if t148 = true then ((band_Within.f a0 (wrap64 (bt135.1 - 1)) a1.toNat).bind fun t149 => (if t149 = true then (none) else ((band_Within.f a0 (wrap64 (bt135.2.1 + 1)) a1.toNat).bind fun t150 => (some (!t150))))) else (none))) else (none))) else (none))) else (some true))))))))) else (none)) else (none)) else (none))))) = some r := h
 clear h
 replace H := Option.bind_eq_some_iff.mp H
 obtain ⟨⟨t135, t136, t137⟩, A40, H⟩ := H
 replace H : ((stopgateref02_Collar.f a0 a1.toNat).bind fun bt138 => ((stopgatelaw02_told.f).bind fun t141 => (if t141 = true then (if t135 = bt138.1 then (if t136 = bt138.2.1 then (if (t137 != bt138.2.2) = true then (none) else ((band_Right.f a1.toNat).bind fun t142 => ((stopgateref02_Right.f a1.toNat).bind fun t143 => (if (t142 != t143) = true then (none) else ((band_Within.f a0 a2 a1.toNat).bind fun t144 => ((stopgateref02_Within.f a0 a2 a1.toNat).bind fun t145 => (if (t144 != t145) = true then (none) else (if t137 = true then ((band_Within.f a0 a0 a1.toNat).bind fun t146 => (if t146 = true then ((band_Within.f a0 t135 a1.toNat).bind fun t147 => (if t147 = true then ((band_Within.f a0 t136 a1.toNat).bind fun t148 => (if t148 = true then ((band_Within.f a0 (wrap64 (t135 - 1)) a1.toNat).bind fun t149 => (if t149 = true then (none) else ((band_Within.f a0 (wrap64 (t136 + 1)) a1.toNat).bind fun t150 => (some (!t150))))) else (none))) else (none))) else (none))) else (some true))))))))) else (none)) else (none)) else (none)))) = some r := H
 have A4 := Aside0.mk A40
 clear A40
 replace H := Option.bind_eq_some_iff.mp H
 obtain ⟨⟨t138, t139, t140⟩, A50, H⟩ := H
 replace H : ((stopgatelaw02_told.f).bind fun t141 => (if t141 = true then (if t135 = t138 then (if t136 = t139 then (if (t137 != t140) = true then (none) else ((band_Right.f a1.toNat).bind fun t142 => ((stopgateref02_Right.f a1.toNat).bind fun t143 => (if (t142 != t143) = true then (none) else ((band_Within.f a0 a2 a1.toNat).bind fun t144 => ((stopgateref02_Within.f a0 a2 a1.toNat).bind fun t145 => (if (t144 != t145) = true then (none) else (if t137 = true then ((band_Within.f a0 a0 a1.toNat).bind fun t146 => (if t146 = true then ((band_Within.f a0 t135 a1.toNat).bind fun t147 => (if t147 = true then ((band_Within.f a0 t136 a1.toNat).bind fun t148 => (if t148 = true then ((band_Within.f a0 (wrap64 (t135 - 1)) a1.toNat).bind fun t149 => (if t149 = true then (none) else ((band_Within.f a0 (wrap64 (t136 + 1)) a1.toNat).bind fun t150 => (some (!t150))))) else (none))) else (none))) else (none))) else (some true))))))))) else (none)) else (none)) else (none))) = some r := H
 have A5 := Aside0.mk A50
 clear A50
 replace H := Option.bind_eq_some_iff.mp H
 obtain ⟨t141, A60, H⟩ := H
 replace H : (if t141 = true then (if t135 = t138 then (if t136 = t139 then (if (t137 != t140) = true then (none) else ((band_Right.f a1.toNat).bind fun t142 => ((stopgateref02_Right.f a1.toNat).bind fun t143 => (if (t142 != t143) = true then (none) else ((band_Within.f a0 a2 a1.toNat).bind fun t144 => ((stopgateref02_Within.f a0 a2 a1.toNat).bind fun t145 => (if (t144 != t145) = true then (none) else (if t137 = true then ((band_Within.f a0 a0 a1.toNat).bind fun t146 => (if t146 = true then ((band_Within.f a0 t135 a1.toNat).bind fun t147 => (if t147 = true then ((band_Within.f a0 t136 a1.toNat).bind fun t148 => (if t148 = true then ((band_Within.f a0 (wrap64 (t135 - 1)) a1.toNat).bind fun t149 => (if t149 = true then (none) else ((band_Within.f a0 (wrap64 (t136 + 1)) a1.toNat).bind fun t150 => (some (!t150))))) else (none))) else (none))) else (none))) else (some true))))))))) else (none)) else (none)) else (none)) = some r := H
 have A6 := Aside0.mk A60
 clear A60
 by_cases c7 : t141 = true
 ·subst c7
  have H1 : (if t135 = t138 then (if t136 = t139 then (if (t137 != t140) = true then (none) else ((band_Right.f a1.toNat).bind fun t142 => ((stopgateref02_Right.f a1.toNat).bind fun t143 => (if (t142 != t143) = true then (none) else ((band_Within.f a0 a2 a1.toNat).bind fun t144 => ((stopgateref02_Within.f a0 a2 a1.toNat).bind fun t145 => (if (t144 != t145) = true then (none) else (if t137 = true then ((band_Within.f a0 a0 a1.toNat).bind fun t146 => (if t146 = true then ((band_Within.f a0 t135 a1.toNat).bind fun t147 => (if t147 = true then ((band_Within.f a0 t136 a1.toNat).bind fun t148 => (if t148 = true then ((band_Within.f a0 (wrap64 (t135 - 1)) a1.toNat).bind fun t149 => (if t149 = true then (none) else ((band_Within.f a0 (wrap64 (t136 + 1)) a1.toNat).bind fun t150 => (some (!t150))))) else (none))) else (none))) else (none))) else (some true))))))))) else (none)) else (none)) = some r := by rw [if_pos rfl] at H; exact H
  clear H
  have H := H1
  clear H1
  by_cases c8 : t135 = t138
  ·rw [if_pos c8] at H
   have c8b0 : (t135 == t138) = true := beq_iff_eq.mpr c8
   have c8b1 : (t135 != t138) = false := bne_eq_false_iff_eq.mpr c8
   clear c8
   by_cases c9 : t136 = t139
   ·rw [if_pos c9] at H
    have c9b0 : (t136 == t139) = true := beq_iff_eq.mpr c9
    have c9b1 : (t136 != t139) = false := bne_eq_false_iff_eq.mpr c9
    clear c9
    by_cases c10 : (t137 != t140) = true
    ·rw [if_pos c10] at H
     exact absurd H (by simp)
    ·rw [if_neg c10] at H
     have c10b0 : (t137 != t140) = false := by simpa using c10
     (try (have c10b1 : decide (t137 = t140) = true := by simpa using c10))
     (try (have c10b2 : (t137 == t140) = true := by simpa using c10))
     clear c10
     replace H := Option.bind_eq_some_iff.mp H
     obtain ⟨t142, A110, H⟩ := H
     replace H : ((stopgateref02_Right.f a1.toNat).bind fun t143 => (if (t142 != t143) = true then (none) else ((band_Within.f a0 a2 a1.toNat).bind fun t144 => ((stopgateref02_Within.f a0 a2 a1.toNat).bind fun t145 => (if (t144 != t145) = true then (none) else (if t137 = true then ((band_Within.f a0 a0 a1.toNat).bind fun t146 => (if t146 = true then ((band_Within.f a0 t135 a1.toNat).bind fun t147 => (if t147 = true then ((band_Within.f a0 t136 a1.toNat).bind fun t148 => (if t148 = true then ((band_Within.f a0 (wrap64 (t135 - 1)) a1.toNat).bind fun t149 => (if t149 = true then (none) else ((band_Within.f a0 (wrap64 (t136 + 1)) a1.toNat).bind fun t150 => (some (!t150))))) else (none))) else (none))) else (none))) else (some true))))))) = some r := H
     have A11 := Aside0.mk A110
     clear A110
     replace H := Option.bind_eq_some_iff.mp H
     obtain ⟨t143, A120, H⟩ := H
     replace H : (if (t142 != t143) = true then (none) else ((band_Within.f a0 a2 a1.toNat).bind fun t144 => ((stopgateref02_Within.f a0 a2 a1.toNat).bind fun t145 => (if (t144 != t145) = true then (none) else (if t137 = true then ((band_Within.f a0 a0 a1.toNat).bind fun t146 => (if t146 = true then ((band_Within.f a0 t135 a1.toNat).bind fun t147 => (if t147 = true then ((band_Within.f a0 t136 a1.toNat).bind fun t148 => (if t148 = true then ((band_Within.f a0 (wrap64 (t135 - 1)) a1.toNat).bind fun t149 => (if t149 = true then (none) else ((band_Within.f a0 (wrap64 (t136 + 1)) a1.toNat).bind fun t150 => (some (!t150))))) else (none))) else (none))) else (none))) else (some true)))))) = some r := H
     have A12 := Aside0.mk A120
     clear A120
     by_cases c13 : (t142 != t143) = true
     ·rw [if_pos c13] at H
      exact absurd H (by simp)
     ·rw [if_neg c13] at H
      have c13b0 : (t142 != t143) = false := by simpa using c13
      (try (have c13b1 : decide (t142 = t143) = true := by simpa using c13))
      (try (have c13b2 : (t142 == t143) = true := by simpa using c13))
      clear c13
      replace H := Option.bind_eq_some_iff.mp H
      obtain ⟨t144, A140, H⟩ := H
      replace H : ((stopgateref02_Within.f a0 a2 a1.toNat).bind fun t145 => (if (t144 != t145) = true then (none) else (if t137 = true then ((band_Within.f a0 a0 a1.toNat).bind fun t146 => (if t146 = true then ((band_Within.f a0 t135 a1.toNat).bind fun t147 => (if t147 = true then ((band_Within.f a0 t136 a1.toNat).bind fun t148 => (if t148 = true then ((band_Within.f a0 (wrap64 (t135 - 1)) a1.toNat).bind fun t149 => (if t149 = true then (none) else ((band_Within.f a0 (wrap64 (t136 + 1)) a1.toNat).bind fun t150 => (some (!t150))))) else (none))) else (none))) else (none))) else (some true)))) = some r := H
      have A14 := Aside0.mk A140
      clear A140
      replace H := Option.bind_eq_some_iff.mp H
      obtain ⟨t145, A150, H⟩ := H
      replace H : (if (t144 != t145) = true then (none) else (if t137 = true then ((band_Within.f a0 a0 a1.toNat).bind fun t146 => (if t146 = true then ((band_Within.f a0 t135 a1.toNat).bind fun t147 => (if t147 = true then ((band_Within.f a0 t136 a1.toNat).bind fun t148 => (if t148 = true then ((band_Within.f a0 (wrap64 (t135 - 1)) a1.toNat).bind fun t149 => (if t149 = true then (none) else ((band_Within.f a0 (wrap64 (t136 + 1)) a1.toNat).bind fun t150 => (some (!t150))))) else (none))) else (none))) else (none))) else (some true))) = some r := H
      have A15 := Aside0.mk A150
      clear A150
      by_cases c16 : (t144 != t145) = true
      ·rw [if_pos c16] at H
       exact absurd H (by simp)
      ·rw [if_neg c16] at H
       have c16b0 : (t144 != t145) = false := by simpa using c16
       (try (have c16b1 : decide (t144 = t145) = true := by simpa using c16))
       (try (have c16b2 : (t144 == t145) = true := by simpa using c16))
       clear c16
       by_cases c17 : t137 = true
       ·subst c17
        have H1 : ((band_Within.f a0 a0 a1.toNat).bind fun t146 => (if t146 = true then ((band_Within.f a0 t135 a1.toNat).bind fun t147 => (if t147 = true then ((band_Within.f a0 t136 a1.toNat).bind fun t148 => (if t148 = true then ((band_Within.f a0 (wrap64 (t135 - 1)) a1.toNat).bind fun t149 => (if t149 = true then (none) else ((band_Within.f a0 (wrap64 (t136 + 1)) a1.toNat).bind fun t150 => (some (!t150))))) else (none))) else (none))) else (none))) = some r := by rw [if_pos rfl] at H; exact H
        clear H
        have H := H1
        clear H1
        replace H := Option.bind_eq_some_iff.mp H
        obtain ⟨t146, A180, H⟩ := H
        replace H : (if t146 = true then ((band_Within.f a0 t135 a1.toNat).bind fun t147 => (if t147 = true then ((band_Within.f a0 t136 a1.toNat).bind fun t148 => (if t148 = true then ((band_Within.f a0 (wrap64 (t135 - 1)) a1.toNat).bind fun t149 => (if t149 = true then (none) else ((band_Within.f a0 (wrap64 (t136 + 1)) a1.toNat).bind fun t150 => (some (!t150))))) else (none))) else (none))) else (none)) = some r := H
        have A18 := Aside0.mk A180
        clear A180
        by_cases c19 : t146 = true
        ·subst c19
         have H1 : ((band_Within.f a0 t135 a1.toNat).bind fun t147 => (if t147 = true then ((band_Within.f a0 t136 a1.toNat).bind fun t148 => (if t148 = true then ((band_Within.f a0 (wrap64 (t135 - 1)) a1.toNat).bind fun t149 => (if t149 = true then (none) else ((band_Within.f a0 (wrap64 (t136 + 1)) a1.toNat).bind fun t150 => (some (!t150))))) else (none))) else (none))) = some r := by rw [if_pos rfl] at H; exact H
         clear H
         have H := H1
         clear H1
         replace H := Option.bind_eq_some_iff.mp H
         obtain ⟨t147, A200, H⟩ := H
         replace H : (if t147 = true then ((band_Within.f a0 t136 a1.toNat).bind fun t148 => (if t148 = true then ((band_Within.f a0 (wrap64 (t135 - 1)) a1.toNat).bind fun t149 => (if t149 = true then (none) else ((band_Within.f a0 (wrap64 (t136 + 1)) a1.toNat).bind fun t150 => (some (!t150))))) else (none))) else (none)) = some r := H
         have A20 := Aside0.mk A200
         clear A200
         by_cases c21 : t147 = true
         ·subst c21
          have H1 : ((band_Within.f a0 t136 a1.toNat).bind fun t148 => (if t148 = true then ((band_Within.f a0 (wrap64 (t135 - 1)) a1.toNat).bind fun t149 => (if t149 = true then (none) else ((band_Within.f a0 (wrap64 (t136 + 1)) a1.toNat).bind fun t150 => (some (!t150))))) else (none))) = some r := by rw [if_pos rfl] at H; exact H
          clear H
          have H := H1
          clear H1
          replace H := Option.bind_eq_some_iff.mp H
          obtain ⟨t148, A220, H⟩ := H
          replace H : (if t148 = true then ((band_Within.f a0 (wrap64 (t135 - 1)) a1.toNat).bind fun t149 => (if t149 = true then (none) else ((band_Within.f a0 (wrap64 (t136 + 1)) a1.toNat).bind fun t150 => (some (!t150))))) else (none)) = some r := H
          have A22 := Aside0.mk A220
          clear A220
          by_cases c23 : t148 = true
          ·subst c23
           have H1 : ((band_Within.f a0 (wrap64 (t135 - 1)) a1.toNat).bind fun t149 => (if t149 = true then (none) else ((band_Within.f a0 (wrap64 (t136 + 1)) a1.toNat).bind fun t150 => (some (!t150))))) = some r := by rw [if_pos rfl] at H; exact H
           clear H
           have H := H1
           clear H1
           replace H := Option.bind_eq_some_iff.mp H
           obtain ⟨t149, A240, H⟩ := H
           replace H : (if t149 = true then (none) else ((band_Within.f a0 (wrap64 (t136 + 1)) a1.toNat).bind fun t150 => (some (!t150)))) = some r := H
           have A24 := Aside0.mk A240
           clear A240
           by_cases c25 : t149 = true
           ·subst c25
            have H1 : (none) = some r := by rw [if_pos rfl] at H; exact H
            clear H
            have H := H1
            clear H1
            exact absurd H (by simp)
           ·replace c25 := Bool.eq_false_iff.mpr c25
            subst c25
            have H1 : ((band_Within.f a0 (wrap64 (t136 + 1)) a1.toNat).bind fun t150 => (some (!t150))) = some r := by rw [if_neg (show ¬ (false = true) by decide)] at H; exact H
            clear H
            have H := H1
            clear H1
            replace H := Option.bind_eq_some_iff.mp H
            obtain ⟨t150, A260, H⟩ := H
            replace H : (some (!t150)) = some r := H
            have A26 := Aside0.mk A260
            clear A260
            obtain rfl := Option.some.inj H
            go_enter Try.func9, Try.ntmps9
            go_wp2_with (first | ((with_reducible refine gate_callee (f := 34) rfl ?_); refine goesL_ (some 19) rfl rfl Try.func34 (by kernel_rfl) rfl #[.int .i64 a0, .float .f64 a1.toNat] rfl (by (try simp only [List.map_toArray, List.map_cons, List.map_nil]); first | done | rfl | (simp only [List.length_drop, List.length_take]; rfl)) ?_; (with_reducible refine (band_Collar.calls a0 a1.toNat t135 t136 true _ A4.out).mono ?_); rintro e w27 ⟨rfl, hb⟩; refine ⟨_, rfl, ?_⟩; have n0_ := Aside0.mk (below_step (by repeat (first | (with_reducible first | exact HB.out | apply below_alloc | apply pw_below_drewN | apply below_drew1) | exact HB.out)) hb); clear HB; have HB := n0_; clear n0_; (try clear hb); (try clear hb2); (try clear hk); (try clear hi)) | ((with_reducible refine gate_callee (f := 37) rfl ?_); refine goesL_ (some 26) rfl rfl Try.func37 (by kernel_rfl) rfl #[.int .i64 a0, .float .f64 a1.toNat] rfl (by (try simp only [List.map_toArray, List.map_cons, List.map_nil]); first | done | rfl | (simp only [List.length_drop, List.length_take]; rfl)) ?_; (with_reducible refine (stopgateref02_Collar.calls a0 a1.toNat t138 t139 t140 _ A5.out).mono ?_); rintro e w28 ⟨rfl, hb⟩; refine ⟨_, rfl, ?_⟩; have n0_ := Aside0.mk (below_step (by repeat (first | (with_reducible first | exact HB.out | apply below_alloc | apply pw_below_drewN | apply below_drew1) | exact HB.out)) hb); clear HB; have HB := n0_; clear n0_; (try clear hb); (try clear hb2); (try clear hk); (try clear hi)) | ((with_reducible refine gate_callee (f := 35) rfl ?_); refine goesL_ (some 30) rfl rfl Try.func35 (by kernel_rfl) rfl #[] rfl (by (try simp only [List.map_toArray, List.map_cons, List.map_nil]); first | done | rfl | (simp only [List.length_drop, List.length_take]; rfl)) ?_; (with_reducible refine (stopgatelaw02_told.calls  true _ A6.out).mono ?_); rintro e w29 ⟨rfl, hb⟩; refine ⟨_, rfl, ?_⟩; have n0_ := Aside0.mk (below_step (by repeat (first | (with_reducible first | exact HB.out | apply below_alloc | apply pw_below_drewN | apply below_drew1) | exact HB.out)) hb); clear HB; have HB := n0_; clear n0_; (try clear hb); (try clear hb2); (try clear hk); (try clear hi)) | (go_at_call 38; (with_reducible refine (band_Right.calls a1.toNat t142 _ A11.out).mono ?_); rintro e w' ⟨rfl, ⟨nd, rfl⟩⟩) | (go_at_call 36; (with_reducible refine (stopgateref02_Right.calls a1.toNat t143 _ A12.out).mono ?_); rintro e w' ⟨rfl, ⟨nd, rfl⟩⟩) | (go_at_call 39; (with_reducible refine (band_Within.calls a0 a2 a1.toNat t144 _ A14.out).mono ?_); rintro e w30 ⟨rfl, hb⟩; have n0_ := Aside0.mk (below_step (by repeat (first | (with_reducible first | exact HB.out | apply below_alloc | apply pw_below_drewN | apply below_drew1) | exact HB.out)) hb); clear HB; have HB := n0_; clear n0_; (try clear hb); (try clear hb2); (try clear hk); (try clear hi)) | (go_at_call 40; (with_reducible refine (stopgateref02_Within.calls a0 a2 a1.toNat t145 _ A15.out).mono ?_); rintro e w31 ⟨rfl, hb⟩; have n0_ := Aside0.mk (below_step (by repeat (first | (with_reducible first | exact HB.out | apply below_alloc | apply pw_below_drewN | apply below_drew1) | exact HB.out)) hb); clear HB; have HB := n0_; clear n0_; (try clear hb); (try clear hb2); (try clear hk); (try clear hi)) | (go_at_call 39; (with_reducible refine (band_Within.calls a0 a0 a1.toNat true _ A18.out).mono ?_); rintro e w32 ⟨rfl, hb⟩; have n0_ := Aside0.mk (below_step (by repeat (first | (with_reducible first | exact HB.out | apply below_alloc | apply pw_below_drewN | apply below_drew1) | exact HB.out)) hb); clear HB; have HB := n0_; clear n0_; (try clear hb); (try clear hb2); (try clear hk); (try clear hi)) | (go_at_call 39; (with_reducible refine (band_Within.calls a0 t135 a1.toNat true _ A20.out).mono ?_); rintro e w33 ⟨rfl, hb⟩; have n0_ := Aside0.mk (below_step (by repeat (first | (with_reducible first | exact HB.out | apply below_alloc | apply pw_below_drewN | apply below_drew1) | exact HB.out)) hb); clear HB; have HB := n0_; clear n0_; (try clear hb); (try clear hb2); (try clear hk); (try clear hi)) | (go_at_call 39; (with_reducible refine (band_Within.calls a0 t136 a1.toNat true _ A22.out).mono ?_); rintro e w34 ⟨rfl, hb⟩; have n0_ := Aside0.mk (below_step (by repeat (first | (with_reducible first | exact HB.out | apply below_alloc | apply pw_below_drewN | apply below_drew1) | exact HB.out)) hb); clear HB; have HB := n0_; clear n0_; (try clear hb); (try clear hb2); (try clear hk); (try clear hi)) | (go_at_call 39; (with_reducible refine (band_Within.calls a0 (wrap64 (t135 - 1)) a1.toNat false _ A24.out).mono ?_); rintro e w35 ⟨rfl, hb⟩; have n0_ := Aside0.mk (below_step (by repeat (first | (with_reducible first | exact HB.out | apply below_alloc | apply pw_below_drewN | apply below_drew1) | exact HB.out)) hb); clear HB; have HB := n0_; clear n0_; (try clear hb); (try clear hb2); (try clear hk); (try clear hi)) | (go_at_call 39; (with_reducible refine (band_Within.calls a0 (wrap64 (t136 + 1)) a1.toNat t150 _ A26.out).mono ?_); rintro e w36 ⟨rfl, hb⟩; have n0_ := Aside0.mk (below_step (by repeat (first | (with_reducible first | exact HB.out | apply below_alloc | apply pw_below_drewN | apply below_drew1) | exact HB.out)) hb); clear HB; have HB := n0_; clear n0_; (try clear hb); (try clear hb2); (try clear hk); (try clear hi)))
            go_ret
            exact ⟨by first | rfl | (simp [errW_none, errW_some] <;> rfl) | (simp [*, errW_none, errW_some] <;> rfl), by repeat (first | (with_reducible first | exact HB.out | apply below_alloc | apply pw_below_drewN | apply below_drew1) | exact HB.out)⟩
          ·replace c23 := Bool.eq_false_iff.mpr c23
           subst c23
           have H1 : (none) = some r := by rw [if_neg (show ¬ (false = true) by decide)] at H; exact H
           clear H
           have H := H1
           clear H1
           exact absurd H (by simp)
         ·replace c21 := Bool.eq_false_iff.mpr c21
          subst c21
          have H1 : (none) = some r := by rw [if_neg (show ¬ (false = true) by decide)] at H; exact H
          clear H
          have H := H1
          clear H1
          exact absurd H (by simp)
        ·replace c19 := Bool.eq_false_iff.mpr c19
         subst c19
         have H1 : (none) = some r := by rw [if_neg (show ¬ (false = true) by decide)] at H; exact H
         clear H
         have H := H1
         clear H1
         exact absurd H (by simp)
       ·replace c17 := Bool.eq_false_iff.mpr c17
        subst c17
        have H1 : (some true) = some r := by rw [if_neg (show ¬ (false = true) by decide)] at H; exact H
        clear H
        have H := H1
        clear H1
        obtain rfl := Option.some.inj H
        go_enter Try.func9, Try.ntmps9
        go_wp2_with (first | ((with_reducible refine gate_callee (f := 34) rfl ?_); refine goesL_ (some 19) rfl rfl Try.func34 (by kernel_rfl) rfl #[.int .i64 a0, .float .f64 a1.toNat] rfl (by (try simp only [List.map_toArray, List.map_cons, List.map_nil]); first | done | rfl | (simp only [List.length_drop, List.length_take]; rfl)) ?_; (with_reducible refine (band_Collar.calls a0 a1.toNat t135 t136 false _ A4.out).mono ?_); rintro e w37 ⟨rfl, hb⟩; refine ⟨_, rfl, ?_⟩; have n0_ := Aside0.mk (below_step (by repeat (first | (with_reducible first | exact HB.out | apply below_alloc | apply pw_below_drewN | apply below_drew1) | exact HB.out)) hb); clear HB; have HB := n0_; clear n0_; (try clear hb); (try clear hb2); (try clear hk); (try clear hi)) | ((with_reducible refine gate_callee (f := 37) rfl ?_); refine goesL_ (some 26) rfl rfl Try.func37 (by kernel_rfl) rfl #[.int .i64 a0, .float .f64 a1.toNat] rfl (by (try simp only [List.map_toArray, List.map_cons, List.map_nil]); first | done | rfl | (simp only [List.length_drop, List.length_take]; rfl)) ?_; (with_reducible refine (stopgateref02_Collar.calls a0 a1.toNat t138 t139 t140 _ A5.out).mono ?_); rintro e w38 ⟨rfl, hb⟩; refine ⟨_, rfl, ?_⟩; have n0_ := Aside0.mk (below_step (by repeat (first | (with_reducible first | exact HB.out | apply below_alloc | apply pw_below_drewN | apply below_drew1) | exact HB.out)) hb); clear HB; have HB := n0_; clear n0_; (try clear hb); (try clear hb2); (try clear hk); (try clear hi)) | ((with_reducible refine gate_callee (f := 35) rfl ?_); refine goesL_ (some 30) rfl rfl Try.func35 (by kernel_rfl) rfl #[] rfl (by (try simp only [List.map_toArray, List.map_cons, List.map_nil]); first | done | rfl | (simp only [List.length_drop, List.length_take]; rfl)) ?_; (with_reducible refine (stopgatelaw02_told.calls  true _ A6.out).mono ?_); rintro e w39 ⟨rfl, hb⟩; refine ⟨_, rfl, ?_⟩; have n0_ := Aside0.mk (below_step (by repeat (first | (with_reducible first | exact HB.out | apply below_alloc | apply pw_below_drewN | apply below_drew1) | exact HB.out)) hb); clear HB; have HB := n0_; clear n0_; (try clear hb); (try clear hb2); (try clear hk); (try clear hi)) | (go_at_call 38; (with_reducible refine (band_Right.calls a1.toNat t142 _ A11.out).mono ?_); rintro e w' ⟨rfl, ⟨nd, rfl⟩⟩) | (go_at_call 36; (with_reducible refine (stopgateref02_Right.calls a1.toNat t143 _ A12.out).mono ?_); rintro e w' ⟨rfl, ⟨nd, rfl⟩⟩) | (go_at_call 39; (with_reducible refine (band_Within.calls a0 a2 a1.toNat t144 _ A14.out).mono ?_); rintro e w40 ⟨rfl, hb⟩; have n0_ := Aside0.mk (below_step (by repeat (first | (with_reducible first | exact HB.out | apply below_alloc | apply pw_below_drewN | apply below_drew1) | exact HB.out)) hb); clear HB; have HB := n0_; clear n0_; (try clear hb); (try clear hb2); (try clear hk); (try clear hi)) | (go_at_call 40; (with_reducible refine (stopgateref02_Within.calls a0 a2 a1.toNat t145 _ A15.out).mono ?_); rintro e w41 ⟨rfl, hb⟩; have n0_ := Aside0.mk (below_step (by repeat (first | (with_reducible first | exact HB.out | apply below_alloc | apply pw_below_drewN | apply below_drew1) | exact HB.out)) hb); clear HB; have HB := n0_; clear n0_; (try clear hb); (try clear hb2); (try clear hk); (try clear hi)))
        go_ret
        exact ⟨by first | rfl | (simp [errW_none, errW_some] <;> rfl) | (simp [*, errW_none, errW_some] <;> rfl), by repeat (first | (with_reducible first | exact HB.out | apply below_alloc | apply pw_below_drewN | apply below_drew1) | exact HB.out)⟩
   ·rw [if_neg c9] at H
    exact absurd H (by simp)
  ·rw [if_neg c8] at H
   exact absurd H (by simp)
 ·replace c7 := Bool.eq_false_iff.mpr c7
  subst c7
  have H1 : (none) = some r := by rw [if_neg (show ¬ (false = true) by decide)] at H; exact H
  clear H
  have H := H1
  clear H1
  exact absurd H (by simp)

/-- THE ONE PURE STATEMENT of stopgatelaw02_BandCollars: yours. -/
def stopgatelaw02_BandCollars.Pure : Prop := ∀ (a0 : Int) (a1 : Int) (a2 : Int), (Lit.int .i64 a0).wf = true → (Lit.int .u64 a1).wf = true → (Lit.int .i64 a2).wf = true → stopgatelaw02_BandCollars.f a0 a1 a2 = some true
theorem stopgatelaw02_BandCollars.walk (P : stopgatelaw02_BandCollars.Pure) (a0 : Int) (a1 : Int) (a2 : Int) (w : World) (h_0 : (Lit.int .i64 a0).wf = true) (h_1 : (Lit.int .u64 a1).wf = true) (h_2 : (Lit.int .i64 a2).wf = true) :
  Calls Try.prog 9 #[.int .i64 a0, .int .u64 a1, .int .i64 a2] w fun e w' => e = .returned (.bool true) ∧ Below w.heap.size w w' := by
 have h := P a0 a1 a2 h_0 h_1 h_2
 refine (stopgatelaw02_BandCollars.calls a0 a1 a2 true w h).mono ?_
 rintro e w' ⟨rfl, hd⟩
 exact ⟨rfl, hd⟩

end Go.Proofs.Ytnodcekkbbmfnaa.QBandCollars
