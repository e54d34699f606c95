/- Printed by wip/gen/myprint.py, a program of this session, for this claim: functions of the program as Lean functions, each with a proof that the Go code comes to its answers. -/
import Derived.Test.YtnodcekkbbmfnaaQBandSamesx0
import Derived.Test.YtnodcekkbbmfnaaQBandSamesx1
namespace Go.Proofs.Ytnodcekkbbmfnaa.QBandSames
open Go.RowKit Go.Proofs.YtnodcekkbbmfnaaW.PrintWords Go.Proofs.YtnodcekkbbmfnaaW.PrintLast Go.Proofs.YtnodcekkbbmfnaaW.PrintMore
attribute [local go_sem] max2_int min2_int max_two min_two max_three min_three max_four min_four   -- for this text's walks alone
set_option linter.unusedVariables false
set_option linter.unusedSimpArgs false

/-! ### stopgatelaw02_BandSames: function 10 -/
def stopgatelaw02_BandSames.f (k : Nat) (a0 : Int) (a1 : Int) : Option (Bool) := (stopgatelaw02_told.f).bind fun t135 => (if t135 = true then ((band_Same.f k a0.toNat a1.toNat).bind fun t136 => ((stopgateref02_Same.f k a0.toNat a1.toNat).bind fun t137 => (if (t136 == t137) = true then ((band_Same.f k a0.toNat a0.toNat).bind fun t138 => (if t138 = true then ((band_Same.f k a1.toNat a0.toNat).bind fun t139 => (some (t139 == t136))) else (none))) else (none)))) else (none))
theorem stopgatelaw02_BandSames.mono : ∀ a0 a1 k, LeO (stopgatelaw02_BandSames.f k a0 a1) (stopgatelaw02_BandSames.f (k + 1) a0 a1) := by
 intro a0 a1 k
 unfold stopgatelaw02_BandSames.f
 repeat' first
   | (with_reducible exact band_Same.mono _ _ _)
   | (with_reducible exact stopgateref02_Same.mono _ _ _)
   | (with_reducible exact LeO.refl _)
   | (with_reducible exact LeO.none _)
   | (with_reducible refine LeO.ite ?_ ?_)
   | (with_reducible refine LeO.bind ?_ (fun _ => ?_))
   | exact band_Same.mono _ _ _
   | exact stopgateref02_Same.mono _ _ _
   | exact LeO.none _
   | refine LeO.ite ?_ ?_
   | refine LeO.bind ?_ (fun _ => ?_)
set_option maxHeartbeats 8000000 in
set_option maxRecDepth 100000 in
theorem stopgatelaw02_BandSames.calls (k : Nat) (a0 : Int) (a1 : Int) (r : Bool) (w : World) (h : stopgatelaw02_BandSames.f k a0 a1 = some r) :
  Calls Try.prog 10 #[.int .u64 a0, .int .u64 a1] w fun e w' => e = .returned (.bool r) ∧ Below w.heap.size w w' := by
 have hx33 : ∀ (n_ : Int) (w_ : World), (callFunc 33 #[.int .u64 n_]).run Try.prog w_ = .ok (.value (.float .f64 n_.toNat)) w_ := fun n_ w_ => (run_callFunc_extern (e := Extern.MathFloatBits.float64frombits) Try.func33 (by kernel_rfl) (by kernel_rfl) (by kernel_rfl) (by kernel_rfl) _ w_).trans rfl
 have HB := Aside0.mk (Below.refl w.heap.size w)
 have H : ((stopgatelaw02_told.f).bind fun t135 => (if t135 = true then ((band_Same.f k a0.toNat a1.toNat).bind fun t136 => ((stopgateref02_Same.f k a0.toNat a1.toNat).bind fun t137 => (if (t136 == t137) = true then ((band_Same.f k a0.toNat a0.toNat).bind fun t138 => (if t138 = true then ((band_Same.f k a1.toNat a0.toNat).bind fun t139 => (some (t139 == t136))) else (none))) else (none)))) else (none))) = some r := h
 clear h
 replace H := Option.bind_eq_some_iff.mp H
 obtain ⟨t135, A30, H⟩ := H
 replace H : (if t135 = true then ((band_Same.f k a0.toNat a1.toNat).bind fun t136 => ((stopgateref02_Same.f k a0.toNat a1.toNat).bind fun t137 => (if (t136 == t137) = true then ((band_Same.f k a0.toNat a0.toNat).bind fun t138 => (if t138 = true then ((band_Same.f k a1.toNat a0.toNat).bind fun t139 => (some (t139 == t136))) else (none))) else (none)))) else (none)) = some r := H
 have A3 := Aside0.mk A30
 clear A30
 by_cases c4 : t135 = true
 ·subst c4
  have H1 : ((band_Same.f k a0.toNat a1.toNat).bind fun t136 => ((stopgateref02_Same.f k a0.toNat a1.toNat).bind fun t137 => (if (t136 == t137) = true then ((band_Same.f k a0.toNat a0.toNat).bind fun t138 => (if t138 = true then ((band_Same.f k a1.toNat a0.toNat).bind fun t139 => (some (t139 == t136))) else (none))) else (none)))) = some r := by rw [if_pos rfl] at H; exact H
  clear H
  have H := H1
  clear H1
  replace H := Option.bind_eq_some_iff.mp H
  obtain ⟨t136, A50, H⟩ := H
  replace H : ((stopgateref02_Same.f k a0.toNat a1.toNat).bind fun t137 => (if (t136 == t137) = true then ((band_Same.f k a0.toNat a0.toNat).bind fun t138 => (if t138 = true then ((band_Same.f k a1.toNat a0.toNat).bind fun t139 => (some (t139 == t136))) else (none))) else (none))) = some r := H
  have A5 := Aside0.mk A50
  clear A50
  replace H := Option.bind_eq_some_iff.mp H
  obtain ⟨t137, A60, H⟩ := H
  replace H : (if (t136 == t137) = true then ((band_Same.f k a0.toNat a0.toNat).bind fun t138 => (if t138 = true then ((band_Same.f k a1.toNat a0.toNat).bind fun t139 => (some (t139 == t136))) else (none))) else (none)) = some r := H
  have A6 := Aside0.mk A60
  clear A60
  by_cases c7 : (t136 == t137) = true
  ·rw [if_pos c7] at H
   have c7b0 : (t136 == t137) = true := c7
   (try (have c7b1 : decide (t136 = t137) = true := by simpa using c7))
   (try (have c7b2 : (t136 == t137) = true := by simpa using c7))
   clear c7
   replace H := Option.bind_eq_some_iff.mp H
   obtain ⟨t138, A80, H⟩ := H
   replace H : (if t138 = true then ((band_Same.f k a1.toNat a0.toNat).bind fun t139 => (some (t139 == t136))) else (none)) = some r := H
   have A8 := Aside0.mk A80
   clear A80
   by_cases c9 : t138 = true
   ·subst c9
    have H1 : ((band_Same.f k a1.toNat a0.toNat).bind fun t139 => (some (t139 == t136))) = some r := by rw [if_pos rfl] at H; exact H
    clear H
    have H := H1
    clear H1
    replace H := Option.bind_eq_some_iff.mp H
    obtain ⟨t139, A100, H⟩ := H
    replace H : (some (t139 == t136)) = some r := H
    have A10 := Aside0.mk A100
    clear A100
    obtain rfl := Option.some.inj H
    go_enter Try.func10, Try.ntmps10
    go_wp2_with (first | ((with_reducible refine gate_callee (f := 35) rfl ?_); refine goesL_ (some 11) rfl rfl Try.func35 (by kernel_rfl) rfl #[] rfl (by (try simp only [List.map_toArray, List.map_cons, List.map_nil]); first | done | rfl | (simp only [List.length_drop, List.length_take]; rfl)) ?_; (with_reducible refine (stopgatelaw02_told.calls  true _ A3.out).mono ?_); rintro e w11 ⟨rfl, hb⟩; refine ⟨_, rfl, ?_⟩; have n0_ := Aside0.mk (below_step (by repeat (first | (with_reducible first | exact HB.out | apply below_alloc | apply pw_below_drewN | apply below_drew1) | exact HB.out)) hb); clear HB; have HB := n0_; clear n0_; (try clear hb); (try clear hb2); (try clear hk); (try clear hi)) | (go_at_call 41; (with_reducible refine (band_Same.calls k a0.toNat a1.toNat t136 _ A5.out).mono ?_); rintro e w' ⟨rfl, ⟨nd, rfl⟩⟩) | (go_at_call 42; (with_reducible refine (stopgateref02_Same.calls k a0.toNat a1.toNat t137 _ A6.out).mono ?_); rintro e w' ⟨rfl, ⟨nd, rfl⟩⟩) | (go_at_call 41; (with_reducible refine (band_Same.calls k a0.toNat a0.toNat true _ A8.out).mono ?_); rintro e w' ⟨rfl, ⟨nd, rfl⟩⟩) | (go_at_call 41; (with_reducible refine (band_Same.calls k a1.toNat a0.toNat t139 _ A10.out).mono ?_); rintro e w' ⟨rfl, ⟨nd, rfl⟩⟩))
    go_ret
    exact ⟨by first | rfl | (simp [errW_none, errW_some] <;> rfl) | (simp [*, errW_none, errW_some] <;> rfl), by repeat (first | (with_reducible first | exact HB.out | apply below_alloc | apply pw_below_drewN | apply below_drew1) | exact HB.out)⟩
   ·replace c9 := Bool.eq_false_iff.mpr c9
    subst c9
    have H1 : (none) = some r := by rw [if_neg (show ¬ (false = true) by decide)] at H; exact H
    clear H
    have H := H1
    clear H1
    exact absurd H (by simp)
  ·rw [if_neg c7] at H
   exact absurd H (by simp)
 ·replace c4 := Bool.eq_false_iff.mpr c4
  subst c4
  have H1 : (none) = some r := by rw [if_neg (show ¬ (false = true) by decide)] at H; exact H
  clear H
  have H := H1
  clear H1
  exact absurd H (by simp)

/-- THE ONE PURE STATEMENT of stopgatelaw02_BandSames: yours. -/
def stopgatelaw02_BandSames.Pure : Prop := ∀ (a0 : Int) (a1 : Int), (Lit.int .u64 a0).wf = true → (Lit.int .u64 a1).wf = true → ∃ k, stopgatelaw02_BandSames.f k a0 a1 = some true
theorem stopgatelaw02_BandSames.walk (P : stopgatelaw02_BandSames.Pure) (a0 : Int) (a1 : Int) (w : World) (h_0 : (Lit.int .u64 a0).wf = true) (h_1 : (Lit.int .u64 a1).wf = true) :
  Calls Try.prog 10 #[.int .u64 a0, .int .u64 a1] w fun e w' => e = .returned (.bool true) ∧ Below w.heap.size w w' := by
 obtain ⟨k, h⟩ := P a0 a1 h_0 h_1
 refine (stopgatelaw02_BandSames.calls k a0 a1 true w h).mono ?_
 rintro e w' ⟨rfl, hd⟩
 exact ⟨rfl, hd⟩

end Go.Proofs.Ytnodcekkbbmfnaa.QBandSames
