/- Printed by wip/gen/myprint.py, a program of this session, for this claim: functions of the program as Lean functions, each with a proof that the Go code comes to its answers. -/
import Derived.Test.YtgikjgekdeaneaaQRulesLooksx0
import Derived.Test.YtgikjgekdeaneaaQRulesLooksx1
import Derived.Test.YtgikjgekdeaneaaQRulesLooksx2
import Derived.Test.YtgikjgekdeaneaaQRulesLooksx4
import Derived.Test.YtgikjgekdeaneaaQRulesLooksx7
import Derived.Test.YtgikjgekdeaneaaQRulesLooksx8
namespace Go.Proofs.Ytgikjgekdeaneaa.QRulesLooks
open Go.RowKit Go.Proofs.YtgikjgekdeaneaaW.PrintWords Go.Proofs.YtgikjgekdeaneaaW.PrintLast Go.Proofs.YtgikjgekdeaneaaW.PrintMore
attribute [local go_sem] max2_int min2_int max_two min_two max_three min_three max_four min_four   -- for this text's walks alone
set_option linter.unusedVariables false
set_option linter.unusedSimpArgs false

attribute [local go_sem] run_store_flt
/-! ### stopgatelaw05_told: function 50 -/
def stopgatelaw05_told.f (k : Nat)  : Option (Bool) := (stopgateref05_Fix.f k 0 0 0 0 ([] : List (S176)) ([] : List Int) (([(⟨99, 99, 1000, 4587366580439587226⟩ : S86)] : List (S86)))).bind fun bt260 => ((stopgatelaw05_To.f k bt260.1 bt260.2.1 bt260.2.2.1 bt260.2.2.2.1 bt260.2.2.2.2.1 bt260.2.2.2.2.2.1 bt260.2.2.2.2.2.2).bind fun bt273 => ((rules_Look.f k bt273.1 bt273.2.1 bt273.2.2.1 bt273.2.2.2.1 bt273.2.2.2.2.1 bt273.2.2.2.2.2.1 bt273.2.2.2.2.2.2 0 0 false 106 1 0 0).bind fun bt287 => ((rules_Look.f k bt273.1 bt273.2.1 bt273.2.2.1 bt273.2.2.2.1 bt273.2.2.2.2.1 bt273.2.2.2.2.2.1 bt273.2.2.2.2.2.2 0 0 false 105 2 0 0).bind fun bt289 => ((rules_Check.f k bt273.1 bt273.2.1 bt273.2.2.1 bt273.2.2.2.1 bt273.2.2.2.2.1 bt273.2.2.2.2.2.1 bt273.2.2.2.2.2.2).bind fun t291 => (if t291 = 0 then (if bt287.1 = 8 then (if bt287.2 = 0 then (if bt289.1 = 0 then (if bt289.2 = 210 then ((rules_Shard.f bt273.1 bt273.2.1 bt273.2.2.1 bt273.2.2.2.1 bt273.2.2.2.2.1 bt273.2.2.2.2.2.1 bt273.2.2.2.2.2.2 0).bind fun t292 => (if t292 = 0 then ((rules_Shard.f bt273.1 bt273.2.1 bt273.2.2.1 bt273.2.2.2.1 bt273.2.2.2.2.1 bt273.2.2.2.2.2.1 bt273.2.2.2.2.2.2 1).bind fun t293 => (some (t293 == (-1)))) else (none))) else (none)) else (none)) else (none)) else (none)) else (none))))))
theorem stopgatelaw05_told.mono : ∀ k, LeO (stopgatelaw05_told.f k ) (stopgatelaw05_told.f (k + 1) ) := by
 intro  k
 unfold stopgatelaw05_told.f
 repeat' first
   | (with_reducible exact rules_Check.mono _ _ _ _ _ _ _ _)
   | (with_reducible exact rules_Look.mono _ _ _ _ _ _ _ _ _ _ _ _ _ _ _)
   | (with_reducible exact stopgatelaw05_To.mono _ _ _ _ _ _ _ _)
   | (with_reducible exact stopgateref05_Fix.mono _ _ _ _ _ _ _ _)
   | (with_reducible exact LeO.refl _)
   | (with_reducible exact LeO.none _)
   | (with_reducible refine LeO.ite ?_ ?_)
   | (with_reducible refine LeO.bind ?_ (fun _ => ?_))
   | exact rules_Check.mono _ _ _ _ _ _ _ _
   | exact rules_Look.mono _ _ _ _ _ _ _ _ _ _ _ _ _ _ _
   | exact stopgatelaw05_To.mono _ _ _ _ _ _ _ _
   | exact stopgateref05_Fix.mono _ _ _ _ _ _ _ _
   | exact LeO.none _
   | refine LeO.ite ?_ ?_
   | refine LeO.bind ?_ (fun _ => ?_)
set_option maxHeartbeats 8000000 in
set_option maxRecDepth 100000 in
theorem stopgatelaw05_told.calls (k : Nat)  (r : Bool) (w : World) (h : stopgatelaw05_told.f k  = some r) :
  Calls Try.prog 50 #[] w fun e w' => e = .returned (.bool r) ∧ Below w.heap.size w w' := by
 have hu86 := Try.underlying86
 have hu81 := Try.underlying81
 have hu90 := Try.underlying90
 have hu28 := Try.underlying28
 have HB := A0s.mk (Below.refl w.heap.size w)
 have H : ((stopgateref05_Fix.f k 0 0 0 0 ([] : List (S176)) ([] : List Int) (([(⟨99, 99, 1000, 4587366580439587226⟩ : S86)] : List (S86)))).bind fun bt260 => ((stopgatelaw05_To.f k bt260.1 bt260.2.1 bt260.2.2.1 bt260.2.2.2.1 bt260.2.2.2.2.1 bt260.2.2.2.2.2.1 bt260.2.2.2.2.2.2).bind fun bt273 => ((rules_Look.f k bt273.1 bt273.2.1 bt273.2.2.1 bt273.2.2.2.1 bt273.2.2.2.2.1 bt273.2.2.2.2.2.1 bt273.2.2.2.2.2.2 0 0 false 106 1 0 0).bind fun bt287 => ((rules_Look.f k bt273.1 bt273.2.1 bt273.2.2.1 bt273.2.2.2.1 bt273.2.2.2.2.1 bt273.2.2.2.2.2.1 bt273.2.2.2.2.2.2 0 0 false 105 2 0 0).bind fun bt289 => ((rules_Check.f k bt273.1 bt273.2.1 bt273.2.2.1 bt273.2.2.2.1 bt273.2.2.2.2.1 bt273.2.2.2.2.2.1 bt273.2.2.2.2.2.2).bind fun t291 => (if t291 = 0 then (if bt287.1 = 8 then (if bt287.2 = 0 then (if bt289.1 = 0 then (if bt289.2 = 210 then ((rules_Shard.f bt273.1 bt273.2.1 bt273.2.2.1 bt273.2.2.2.1 bt273.2.2.2.2.1 bt273.2.2.2.2.2.1 bt273.2.2.2.2.2.2 0).bind fun t292 => (if t292 = 0 then ((rules_Shard.f bt273.1 bt273.2.1 bt273.2.2.1 bt273.2.2.2.1 bt273.2.2.2.2.1 bt273.2.2.2.2.2.1 bt273.2.2.2.2.2.2 1).bind fun t293 => (some (t293 == (-1)))) else (none))) else (none)) else (none)) else (none)) else (none)) else (none))))))) = some r := h
 clear h
 obtain ⟨y257, hy257⟩ : ∃ y_ : List (S86), y_ = (([(⟨99, 99, 1000, 4587366580439587226⟩ : S86)] : List (S86))) := ⟨_, rfl⟩
 replace H : ((stopgateref05_Fix.f k 0 0 0 0 ([] : List (S176)) ([] : List Int) y257).bind fun bt260 => ((stopgatelaw05_To.f k bt260.1 bt260.2.1 bt260.2.2.1 bt260.2.2.2.1 bt260.2.2.2.2.1 bt260.2.2.2.2.2.1 bt260.2.2.2.2.2.2).bind fun bt273 => ((rules_Look.f k bt273.1 bt273.2.1 bt273.2.2.1 bt273.2.2.2.1 bt273.2.2.2.2.1 bt273.2.2.2.2.2.1 bt273.2.2.2.2.2.2 0 0 false 106 1 0 0).bind fun bt287 => ((rules_Look.f k bt273.1 bt273.2.1 bt273.2.2.1 bt273.2.2.2.1 bt273.2.2.2.2.1 bt273.2.2.2.2.2.1 bt273.2.2.2.2.2.2 0 0 false 105 2 0 0).bind fun bt289 => ((rules_Check.f k bt273.1 bt273.2.1 bt273.2.2.1 bt273.2.2.2.1 bt273.2.2.2.2.1 bt273.2.2.2.2.2.1 bt273.2.2.2.2.2.2).bind fun t291 => (if t291 = 0 then (if bt287.1 = 8 then (if bt287.2 = 0 then (if bt289.1 = 0 then (if bt289.2 = 210 then ((rules_Shard.f bt273.1 bt273.2.1 bt273.2.2.1 bt273.2.2.2.1 bt273.2.2.2.2.1 bt273.2.2.2.2.2.1 bt273.2.2.2.2.2.2 0).bind fun t292 => (if t292 = 0 then ((rules_Shard.f bt273.1 bt273.2.1 bt273.2.2.1 bt273.2.2.2.1 bt273.2.2.2.2.1 bt273.2.2.2.2.2.1 bt273.2.2.2.2.2.2 1).bind fun t293 => (some (t293 == (-1)))) else (none))) else (none)) else (none)) else (none)) else (none)) else (none))))))) = some r := by first | (rw [hy257]; with_reducible exact H) | (have H2_ := (Option.bind_some _ _).symm.trans H; rw [hy257]; with_reducible exact H2_) | (have H2_ := (Option.bind_some _ _).symm.trans H; with_reducible exact H2_) | with_reducible exact H | (rw [hy257]; exact H) | exact H
 have Ny257 := A0s.mk hy257
 clear hy257
 replace H := Option.bind_eq_some_iff.mp H
 obtain ⟨⟨t260, t261, t262, t263, t264, t267, t270⟩, A10, H⟩ := H
 replace H : ((stopgatelaw05_To.f k t260 t261 t262 t263 t264 t267 t270).bind fun bt273 => ((rules_Look.f k bt273.1 bt273.2.1 bt273.2.2.1 bt273.2.2.2.1 bt273.2.2.2.2.1 bt273.2.2.2.2.2.1 bt273.2.2.2.2.2.2 0 0 false 106 1 0 0).bind fun bt287 => ((rules_Look.f k bt273.1 bt273.2.1 bt273.2.2.1 bt273.2.2.2.1 bt273.2.2.2.2.1 bt273.2.2.2.2.2.1 bt273.2.2.2.2.2.2 0 0 false 105 2 0 0).bind fun bt289 => ((rules_Check.f k bt273.1 bt273.2.1 bt273.2.2.1 bt273.2.2.2.1 bt273.2.2.2.2.1 bt273.2.2.2.2.2.1 bt273.2.2.2.2.2.2).bind fun t291 => (if t291 = 0 then (if bt287.1 = 8 then (if bt287.2 = 0 then (if bt289.1 = 0 then (if bt289.2 = 210 then ((rules_Shard.f bt273.1 bt273.2.1 bt273.2.2.1 bt273.2.2.2.1 bt273.2.2.2.2.1 bt273.2.2.2.2.2.1 bt273.2.2.2.2.2.2 0).bind fun t292 => (if t292 = 0 then ((rules_Shard.f bt273.1 bt273.2.1 bt273.2.2.1 bt273.2.2.2.1 bt273.2.2.2.2.1 bt273.2.2.2.2.2.1 bt273.2.2.2.2.2.2 1).bind fun t293 => (some (t293 == (-1)))) else (none))) else (none)) else (none)) else (none)) else (none)) else (none)))))) = some r := H
 have A1 := A0s.mk A10
 clear A10
 replace H := Option.bind_eq_some_iff.mp H
 obtain ⟨⟨t273, t274, t275, t276, t277, t280, t283⟩, A20, H⟩ := H
 replace H : ((rules_Look.f k t273 t274 t275 t276 t277 t280 t283 0 0 false 106 1 0 0).bind fun bt287 => ((rules_Look.f k t273 t274 t275 t276 t277 t280 t283 0 0 false 105 2 0 0).bind fun bt289 => ((rules_Check.f k t273 t274 t275 t276 t277 t280 t283).bind fun t291 => (if t291 = 0 then (if bt287.1 = 8 then (if bt287.2 = 0 then (if bt289.1 = 0 then (if bt289.2 = 210 then ((rules_Shard.f t273 t274 t275 t276 t277 t280 t283 0).bind fun t292 => (if t292 = 0 then ((rules_Shard.f t273 t274 t275 t276 t277 t280 t283 1).bind fun t293 => (some (t293 == (-1)))) else (none))) else (none)) else (none)) else (none)) else (none)) else (none))))) = some r := H
 have A2 := A0s.mk A20
 clear A20
 replace H := Option.bind_eq_some_iff.mp H
 obtain ⟨⟨t287, t288⟩, A30, H⟩ := H
 replace H : ((rules_Look.f k t273 t274 t275 t276 t277 t280 t283 0 0 false 105 2 0 0).bind fun bt289 => ((rules_Check.f k t273 t274 t275 t276 t277 t280 t283).bind fun t291 => (if t291 = 0 then (if t287 = 8 then (if t288 = 0 then (if bt289.1 = 0 then (if bt289.2 = 210 then ((rules_Shard.f t273 t274 t275 t276 t277 t280 t283 0).bind fun t292 => (if t292 = 0 then ((rules_Shard.f t273 t274 t275 t276 t277 t280 t283 1).bind fun t293 => (some (t293 == (-1)))) else (none))) else (none)) else (none)) else (none)) else (none)) else (none)))) = some r := H
 have A3 := A0s.mk A30
 clear A30
 replace H := Option.bind_eq_some_iff.mp H
 obtain ⟨⟨t289, t290⟩, A40, H⟩ := H
 replace H : ((rules_Check.f k t273 t274 t275 t276 t277 t280 t283).bind fun t291 => (if t291 = 0 then (if t287 = 8 then (if t288 = 0 then (if t289 = 0 then (if t290 = 210 then ((rules_Shard.f t273 t274 t275 t276 t277 t280 t283 0).bind fun t292 => (if t292 = 0 then ((rules_Shard.f t273 t274 t275 t276 t277 t280 t283 1).bind fun t293 => (some (t293 == (-1)))) else (none))) else (none)) else (none)) else (none)) else (none)) else (none))) = some r := H
 have A4 := A0s.mk A40
 clear A40
 replace H := Option.bind_eq_some_iff.mp H
 obtain ⟨t291, A50, H⟩ := H
 replace H : (if t291 = 0 then (if t287 = 8 then (if t288 = 0 then (if t289 = 0 then (if t290 = 210 then ((rules_Shard.f t273 t274 t275 t276 t277 t280 t283 0).bind fun t292 => (if t292 = 0 then ((rules_Shard.f t273 t274 t275 t276 t277 t280 t283 1).bind fun t293 => (some (t293 == (-1)))) else (none))) else (none)) else (none)) else (none)) else (none)) else (none)) = some r := H
 have A5 := A0s.mk A50
 clear A50
 by_cases c6 : t291 = 0
 ·rw [if_pos c6] at H
  have c6b0 : (t291 == 0) = true := beq_iff_eq.mpr c6
  have c6b1 : (t291 != 0) = false := bne_eq_false_iff_eq.mpr c6
  clear c6
  by_cases c7 : t287 = 8
  ·rw [if_pos c7] at H
   have c7b0 : (t287 == 8) = true := beq_iff_eq.mpr c7
   have c7b1 : (t287 != 8) = false := bne_eq_false_iff_eq.mpr c7
   clear c7
   by_cases c8 : t288 = 0
   ·rw [if_pos c8] at H
    have c8b0 : (t288 == 0) = true := beq_iff_eq.mpr c8
    have c8b1 : (t288 != 0) = false := bne_eq_false_iff_eq.mpr c8
    clear c8
    by_cases c9 : t289 = 0
    ·rw [if_pos c9] at H
     have c9b0 : (t289 == 0) = true := beq_iff_eq.mpr c9
     have c9b1 : (t289 != 0) = false := bne_eq_false_iff_eq.mpr c9
     clear c9
     by_cases c10 : t290 = 210
     ·rw [if_pos c10] at H
      have c10b0 : (t290 == 210) = true := beq_iff_eq.mpr c10
      have c10b1 : (t290 != 210) = false := bne_eq_false_iff_eq.mpr c10
      clear c10
      replace H := Option.bind_eq_some_iff.mp H
      obtain ⟨t292, A110, H⟩ := H
      replace H : (if t292 = 0 then ((rules_Shard.f t273 t274 t275 t276 t277 t280 t283 1).bind fun t293 => (some (t293 == (-1)))) else (none)) = some r := H
      have A11 := A0s.mk A110
      clear A110
      by_cases c12 : t292 = 0
      ·rw [if_pos c12] at H
       have c12b0 : (t292 == 0) = true := beq_iff_eq.mpr c12
       have c12b1 : (t292 != 0) = false := bne_eq_false_iff_eq.mpr c12
       clear c12
       replace H := Option.bind_eq_some_iff.mp H
       obtain ⟨t293, A130, H⟩ := H
       replace H : (some (t293 == (-1))) = some r := H
       have A13 := A0s.mk A130
       clear A130
       obtain rfl := Option.some.inj H
       go_enter Try.func50, Try.ntmps50
       go_wp2_with (first | ((with_reducible refine gate_dst (N := 7) rfl ?_); refine Kd.R_lit k86 _ 86 ?hg (N := 7) ?hd (xs := ([(⟨99, 99, 1000, 4587366580439587226⟩ : S86)] : List (S86))) (inner := [.int .i64 99, .int .i64 99, .int .i64 1000, .float .f64 4587366580439587226]) (ok := fun _ => True) (okp := fun _ => True) ?hr ?hp (fun _ hk => hk) trivial (Below.refl _ _) (Nat.le_refl _) (by simp) ?_; (case hd => rfl); (case hg => rfl); (case hr => first | (go_simp; done) | (go_simp; rfl)); (case hp => exact (Reps.c4 (show Kd.M k86 _ _ _ (⟨99, 99, 1000, 4587366580439587226⟩ : S86) [.int .i64 99, .int .i64 99, .int .i64 1000, .float .f64 4587366580439587226] from (k86_mkM _ _ _ (⟨99, 99, 1000, 4587366580439587226⟩ : S86) )) (Reps.none _ _))); intro v258 w14 ho15 hb hg_ hnew_; clear hg_ hnew_; (first | rw [← Ny257.out] at ho15 | (simp only [Int.reduceToNat] at ho15; rw [← Ny257.out] at ho15)); have n0_ := A0s.mk (Kd.R_lower ho15 (below_size (by repeat (first | (with_reducible first | exact HB.out | apply bA | apply bN | apply bD) | exact HB.out)))); have n1_ := A0s.mk (below_step (by repeat (first | (with_reducible first | exact HB.out | apply bA | apply bN | apply bD) | exact HB.out)) hb); clear HB; have HO259 := n0_; have HB := n1_; clear n0_ n1_; clear hb ho15; obtain ⟨Ao16, co16, eo16⟩ := Kd.R_slice HO259.out; subst eo16) | ((with_reducible refine gC (f := 40) rfl ?_); refine gL (some 9) rfl rfl Try.func40 (by kernel_rfl) rfl #[.agg #[.int .i64 0, .int .i64 0, .int .i64 0, .int .i64 0, .slice none 0 0, .slice none 0 0, .slice Ao16 y257.length co16]] rfl (by (try simp only [List.map_toArray, List.map_cons, List.map_nil]); first | done | rfl | (simp only [List.length_drop, List.length_take]; rfl)) ?_; (refine (stopgateref05_Fix.calls k 0 0 0 0 _ _ ([] : List (S176)) _ _ ([] : List Int) _ _ y257 t260 t261 t262 t263 t264 t267 t270 _ ?side1 ?side2 ?side3 ?side4 ?side5 ?side6 A1.out).mono ?_); (case side1 => exact Kd.C_nil _ _); (case side2 => exact Nat.le_refl _); (case side3 => exact Kd.C_nil _ _); (case side4 => exact Nat.le_refl _); (case side5 => repeat (first | exact (Kd.R_reads' HO259.out).2.2 | (with_reducible refine Kd.C_alloc ?_ _) | (with_reducible refine Kd.C_drewN ?_ _) | (with_reducible refine Kd.C_drew ?_))); (case side6 => exact (Kd.R_reads' HO259.out).2.1); rintro e w17 ⟨v265, v268, v271, rfl, ho0, ho1, ho2, hb⟩; refine ⟨_, rfl, ?_⟩; have n0_ := A0s.mk (Kd.R_elder' (by (with_reducible repeat (first | apply Kd.RA | apply Kd.RN | apply Kd.RD)); exact HO259.out) (Kd.R_base ho2) hb); have n1_ := A0s.mk (Kd.R_lower ho0 (below_size (by repeat (first | (with_reducible first | exact HB.out | apply bA | apply bN | apply bD) | exact HB.out)))); have n2_ := A0s.mk (Kd.R_lower ho1 (below_size (by repeat (first | (with_reducible first | exact HB.out | apply bA | apply bN | apply bD) | exact HB.out)))); have n3_ := A0s.mk (Kd.R_lower (Kd.R_new' ho2 (Kd.R_lt (by (with_reducible repeat (first | apply Kd.RA | apply Kd.RN | apply Kd.RD)); exact HO259.out))) (below_size (by repeat (first | (with_reducible first | exact HB.out | apply bA | apply bN | apply bD) | exact HB.out)))); have n4_ := A0s.mk (below_step (by repeat (first | (with_reducible first | exact HB.out | apply bA | apply bN | apply bD) | exact HB.out)) hb); clear HO259; clear HB; have HO259 := n0_; have HO266 := n1_; have HO269 := n2_; have HO272 := n3_; have HB := n4_; clear n0_ n1_ n2_ n3_ n4_; (try clear hb); (try clear hb2); (try clear hk); (try clear hi); (try clear ho0); (try clear ho1); (try clear ho2); obtain ⟨Ao18, co18, eo18⟩ := Kd.R_slice HO266.out; subst eo18; obtain ⟨Ao19, co19, eo19⟩ := Kd.R_slice HO269.out; subst eo19; obtain ⟨Ao20, co20, eo20⟩ := Kd.R_slice HO272.out; subst eo20) | ((with_reducible refine gC (f := 42) rfl ?_); refine gL (some 10) rfl rfl Try.func42 (by kernel_rfl) rfl #[.agg #[.int .i64 t260, .int .i64 t261, .int .i64 t262, .int .i64 t263, .slice Ao18 t264.length co18, .slice Ao19 t267.length co19, .slice Ao20 t270.length co20]] rfl (by (try simp only [List.map_toArray, List.map_cons, List.map_nil]); first | done | rfl | (simp only [List.length_drop, List.length_take]; rfl)) ?_; (with_reducible refine (stopgatelaw05_To.calls k t260 t261 t262 t263 _ _ t264 _ _ t267 _ _ t270 t273 t274 t275 t276 t277 t280 t283 _ ?side1 ?side2 ?side3 ?side4 ?side5 ?side6 A2.out).mono ?_); (case side1 => repeat (first | exact (Kd.R_reads' HO266.out).2.2 | (with_reducible refine Kd.C_alloc ?_ _) | (with_reducible refine Kd.C_drewN ?_ _) | (with_reducible refine Kd.C_drew ?_))); (case side2 => exact (Kd.R_reads' HO266.out).2.1); (case side3 => repeat (first | exact (Kd.R_reads' HO269.out).2.2 | (with_reducible refine Kd.C_alloc ?_ _) | (with_reducible refine Kd.C_drewN ?_ _) | (with_reducible refine Kd.C_drew ?_))); (case side4 => exact (Kd.R_reads' HO269.out).2.1); (case side5 => repeat (first | exact (Kd.R_reads' HO272.out).2.2 | (with_reducible refine Kd.C_alloc ?_ _) | (with_reducible refine Kd.C_drewN ?_ _) | (with_reducible refine Kd.C_drew ?_))); (case side6 => exact (Kd.R_reads' HO272.out).2.1); rintro e w21 ⟨v278, v281, v284, rfl, ho0, ho1, ho2, hb⟩; refine ⟨_, rfl, ?_⟩; have n0_ := A0s.mk (Kd.R_below (by (with_reducible repeat (first | apply Kd.RA | apply Kd.RN | apply Kd.RD)); exact HO259.out) hb); have n1_ := A0s.mk (Kd.R_below (by (with_reducible repeat (first | apply Kd.RA | apply Kd.RN | apply Kd.RD)); exact HO266.out) hb); have n2_ := A0s.mk (Kd.R_elder' (by (with_reducible repeat (first | apply Kd.RA | apply Kd.RN | apply Kd.RD)); exact HO269.out) (Kd.R_base ho1) hb); have n3_ := A0s.mk (Kd.R_below (by (with_reducible repeat (first | apply Kd.RA | apply Kd.RN | apply Kd.RD)); exact HO272.out) hb); have n4_ := A0s.mk (Kd.R_lower ho0 (below_size (by repeat (first | (with_reducible first | exact HB.out | apply bA | apply bN | apply bD) | exact HB.out)))); have n5_ := A0s.mk (Kd.R_lower (Kd.R_new' ho1 (Kd.R_lt (by (with_reducible repeat (first | apply Kd.RA | apply Kd.RN | apply Kd.RD)); exact HO269.out))) (below_size (by repeat (first | (with_reducible first | exact HB.out | apply bA | apply bN | apply bD) | exact HB.out)))); have n6_ := A0s.mk (Kd.R_lower ho2 (below_size (by repeat (first | (with_reducible first | exact HB.out | apply bA | apply bN | apply bD) | exact HB.out)))); have n7_ := A0s.mk (below_step (by repeat (first | (with_reducible first | exact HB.out | apply bA | apply bN | apply bD) | exact HB.out)) hb); clear HO259; clear HO266; clear HO269; clear HO272; clear HB; have HO259 := n0_; have HO266 := n1_; have HO269 := n2_; have HO272 := n3_; have HO279 := n4_; have HO282 := n5_; have HO285 := n6_; have HB := n7_; clear n0_ n1_ n2_ n3_ n4_ n5_ n6_ n7_; (try clear hb); (try clear hb2); (try clear hk); (try clear hi); (try clear ho0); (try clear ho1); (try clear ho2)) | ((with_reducible refine gate_dst (N := 1) rfl ?_); refine box_event ?hg (N := 1) ?hd (cs := #[.int .i64 0, .int .i64 0, .int .i64 0, .int .i64 0, .slice none 0 0, .slice none 0 0, .slice none 0 0]) (t := 90) ?hr ?_; (case hd => rfl); (case hg => rfl); (case hr => first | (go_simp; done) | (go_simp; rfl)); intro gb286 hg w22 hbox hb; have n0_ := A0s.mk (Kd.R_below (by (with_reducible repeat (first | apply Kd.RA | apply Kd.RN | apply Kd.RD)); exact HO259.out) hb); have n1_ := A0s.mk (Kd.R_below (by (with_reducible repeat (first | apply Kd.RA | apply Kd.RN | apply Kd.RD)); exact HO266.out) hb); have n2_ := A0s.mk (Kd.R_below (by (with_reducible repeat (first | apply Kd.RA | apply Kd.RN | apply Kd.RD)); exact HO269.out) hb); have n3_ := A0s.mk (Kd.R_below (by (with_reducible repeat (first | apply Kd.RA | apply Kd.RN | apply Kd.RD)); exact HO272.out) hb); have n4_ := A0s.mk (Kd.R_below (by (with_reducible repeat (first | apply Kd.RA | apply Kd.RN | apply Kd.RD)); exact HO279.out) hb); have n5_ := A0s.mk (Kd.R_below (by (with_reducible repeat (first | apply Kd.RA | apply Kd.RN | apply Kd.RD)); exact HO282.out) hb); have n6_ := A0s.mk (Kd.R_below (by (with_reducible repeat (first | apply Kd.RA | apply Kd.RN | apply Kd.RD)); exact HO285.out) hb); have n7_ := A0s.mk (below_step (by repeat (first | (with_reducible first | exact HB.out | apply bA | apply bN | apply bD) | exact HB.out)) hb); have n8_ := A0s.mk (hbox); have n9_ := A0s.mk ((by rw [hg]; exact (below_size (by repeat (first | (with_reducible first | exact HB.out | apply bA | apply bN | apply bD) | exact HB.out))) : w.heap.size ≤ gb286)); have n10_ := A0s.mk ((by rw [hg]; exact (below_size (by repeat (first | (with_reducible first | exact HB.out | apply bA | apply bN | apply bD) | exact HB.out))) : w.heap.size ≤ gb286)); clear HO259; clear HO266; clear HO269; clear HO272; clear HO279; clear HO282; clear HO285; clear HB; have HO259 := n0_; have HO266 := n1_; have HO269 := n2_; have HO272 := n3_; have HO279 := n4_; have HO282 := n5_; have HO285 := n6_; have HB := n7_; have BK286 := n8_; have GW286 := n9_; have GE286 := n10_; clear n0_ n1_ n2_ n3_ n4_ n5_ n6_ n7_ n8_ n9_ n10_; clear hb hbox hg; obtain ⟨hcz23_0, hcz23_1, hcz23_2, hcz23_3, hcz23_4, hcz23_5, hcz23_6, hfz23_0, hfz23_1, hfz23_2, hfz23_3, hfz23_4, hfz23_5, hfz23_6⟩ := blk_all7 BK286.out; obtain ⟨Ao24, co24, eo24⟩ := Kd.R_slice HO279.out; subst eo24; obtain ⟨Ao25, co25, eo25⟩ := Kd.R_slice HO282.out; subst eo25; obtain ⟨Ao26, co26, eo26⟩ := Kd.R_slice HO285.out; subst eo26) | ((with_reducible refine gC (f := 53) rfl ?_); refine gL (some 14) rfl rfl Try.func53 (by kernel_rfl) rfl #[.agg #[.int .i64 t273, .int .i64 t274, .int .i64 t275, .int .i64 t276, .slice Ao24 t277.length co24, .slice Ao25 t280.length co25, .slice Ao26 t283.length co26], .agg #[.int .i64 0, .int .i64 0, .bool false, .int .i64 106, .int .i64 1, .int .i64 0, .int .i64 0]] rfl (by (try simp only [List.map_toArray, List.map_cons, List.map_nil]); first | done | rfl | (simp only [List.length_drop, List.length_take]; rfl)) ?_; (with_reducible refine (rules_Look.calls k t273 t274 t275 t276 _ _ t277 _ _ t280 _ _ t283 0 0 false 106 1 0 0 t287 t288 _ ?side1 ?side2 ?side3 ?side4 ?side5 ?side6 A3.out).mono ?_); (case side1 => refine (Kd.R_reads' (e := 178) (base := w.heap.size) (ok := fun k_ => True) (n := t277.length) (c := co24) ?_).2.2; exact (by (with_reducible repeat (first | apply Kd.RA | apply Kd.RN | apply Kd.RD)); exact (Kd.R_mono (Kd.R_far (p := ⟨gb286, 6, none⟩) (Kd.R_far (p := ⟨gb286, 5, none⟩) (Kd.R_far (p := ⟨gb286, 4, none⟩) (Kd.R_far (p := ⟨gb286, 3, none⟩) (Kd.R_far (p := ⟨gb286, 2, none⟩) (Kd.R_far (p := ⟨gb286, 1, none⟩) (Kd.R_far (p := ⟨gb286, 0, none⟩) (Kd.R_types HO279.out BK286.out (by decide)) (fun _ hk => hk.2) (.int .i64 t273)) (fun _ hk => hk.2) (.int .i64 t274)) (fun _ hk => hk.2) (.int .i64 t275)) (fun _ hk => hk.2) (.int .i64 t276)) (fun _ hk => hk.2) (.slice Ao24 t277.length co24)) (fun _ hk => hk.2) (.slice Ao25 t280.length co25)) (fun _ hk => hk.2) (.slice Ao26 t283.length co26)) (fun _ h_ => h_.1)))); (case side2 => exact (Kd.R_reads' HO279.out).2.1); (case side3 => refine (Kd.R_reads' (e := 3) (base := w.heap.size) (ok := fun k_ => (True ∧ some k_ ≠ (.slice Ao19 t267.length co19 : Value).ownBlock)) (n := t280.length) (c := co25) ?_).2.2; exact (by (with_reducible repeat (first | apply Kd.RA | apply Kd.RN | apply Kd.RD)); exact (Kd.R_mono (Kd.R_far (p := ⟨gb286, 6, none⟩) (Kd.R_far (p := ⟨gb286, 5, none⟩) (Kd.R_far (p := ⟨gb286, 4, none⟩) (Kd.R_far (p := ⟨gb286, 3, none⟩) (Kd.R_far (p := ⟨gb286, 2, none⟩) (Kd.R_far (p := ⟨gb286, 1, none⟩) (Kd.R_far (p := ⟨gb286, 0, none⟩) (Kd.R_types HO282.out BK286.out (by decide)) (fun _ hk => hk.2) (.int .i64 t273)) (fun _ hk => hk.2) (.int .i64 t274)) (fun _ hk => hk.2) (.int .i64 t275)) (fun _ hk => hk.2) (.int .i64 t276)) (fun _ hk => hk.2) (.slice Ao24 t277.length co24)) (fun _ hk => hk.2) (.slice Ao25 t280.length co25)) (fun _ hk => hk.2) (.slice Ao26 t283.length co26)) (fun _ h_ => h_.1)))); (case side4 => exact (Kd.R_reads' HO282.out).2.1); (case side5 => refine (Kd.R_reads' (e := 147) (base := w.heap.size) (ok := fun k_ => True) (n := t283.length) (c := co26) ?_).2.2; exact (by (with_reducible repeat (first | apply Kd.RA | apply Kd.RN | apply Kd.RD)); exact (Kd.R_mono (Kd.R_far (p := ⟨gb286, 6, none⟩) (Kd.R_far (p := ⟨gb286, 5, none⟩) (Kd.R_far (p := ⟨gb286, 4, none⟩) (Kd.R_far (p := ⟨gb286, 3, none⟩) (Kd.R_far (p := ⟨gb286, 2, none⟩) (Kd.R_far (p := ⟨gb286, 1, none⟩) (Kd.R_far (p := ⟨gb286, 0, none⟩) (Kd.R_types HO285.out BK286.out (by decide)) (fun _ hk => hk.2) (.int .i64 t273)) (fun _ hk => hk.2) (.int .i64 t274)) (fun _ hk => hk.2) (.int .i64 t275)) (fun _ hk => hk.2) (.int .i64 t276)) (fun _ hk => hk.2) (.slice Ao24 t277.length co24)) (fun _ hk => hk.2) (.slice Ao25 t280.length co25)) (fun _ hk => hk.2) (.slice Ao26 t283.length co26)) (fun _ h_ => h_.1)))); (case side6 => exact (Kd.R_reads' HO285.out).2.1); rintro e w27 ⟨rfl, hb⟩; refine ⟨_, rfl, ?_⟩; have n0_ := A0s.mk (Kd.R_below (by (with_reducible repeat (first | apply Kd.RA | apply Kd.RN | apply Kd.RD)); exact (Kd.R_mono (Kd.R_far (p := ⟨gb286, 6, none⟩) (Kd.R_far (p := ⟨gb286, 5, none⟩) (Kd.R_far (p := ⟨gb286, 4, none⟩) (Kd.R_far (p := ⟨gb286, 3, none⟩) (Kd.R_far (p := ⟨gb286, 2, none⟩) (Kd.R_far (p := ⟨gb286, 1, none⟩) (Kd.R_far (p := ⟨gb286, 0, none⟩) (Kd.R_types HO259.out BK286.out (by decide)) (fun _ hk => hk.2) (.int .i64 t273)) (fun _ hk => hk.2) (.int .i64 t274)) (fun _ hk => hk.2) (.int .i64 t275)) (fun _ hk => hk.2) (.int .i64 t276)) (fun _ hk => hk.2) (.slice Ao24 t277.length co24)) (fun _ hk => hk.2) (.slice Ao25 t280.length co25)) (fun _ hk => hk.2) (.slice Ao26 t283.length co26)) (fun _ h_ => h_.1))) hb); have n1_ := A0s.mk (Kd.R_below (by (with_reducible repeat (first | apply Kd.RA | apply Kd.RN | apply Kd.RD)); exact (Kd.R_mono (Kd.R_far (p := ⟨gb286, 6, none⟩) (Kd.R_far (p := ⟨gb286, 5, none⟩) (Kd.R_far (p := ⟨gb286, 4, none⟩) (Kd.R_far (p := ⟨gb286, 3, none⟩) (Kd.R_far (p := ⟨gb286, 2, none⟩) (Kd.R_far (p := ⟨gb286, 1, none⟩) (Kd.R_far (p := ⟨gb286, 0, none⟩) (Kd.R_types HO266.out BK286.out (by decide)) (fun _ hk => hk.2) (.int .i64 t273)) (fun _ hk => hk.2) (.int .i64 t274)) (fun _ hk => hk.2) (.int .i64 t275)) (fun _ hk => hk.2) (.int .i64 t276)) (fun _ hk => hk.2) (.slice Ao24 t277.length co24)) (fun _ hk => hk.2) (.slice Ao25 t280.length co25)) (fun _ hk => hk.2) (.slice Ao26 t283.length co26)) (fun _ h_ => h_.1))) hb); have n2_ := A0s.mk (Kd.R_below (by (with_reducible repeat (first | apply Kd.RA | apply Kd.RN | apply Kd.RD)); exact (Kd.R_mono (Kd.R_far (p := ⟨gb286, 6, none⟩) (Kd.R_far (p := ⟨gb286, 5, none⟩) (Kd.R_far (p := ⟨gb286, 4, none⟩) (Kd.R_far (p := ⟨gb286, 3, none⟩) (Kd.R_far (p := ⟨gb286, 2, none⟩) (Kd.R_far (p := ⟨gb286, 1, none⟩) (Kd.R_far (p := ⟨gb286, 0, none⟩) (Kd.R_types HO269.out BK286.out (by decide)) (fun _ hk => hk.2) (.int .i64 t273)) (fun _ hk => hk.2) (.int .i64 t274)) (fun _ hk => hk.2) (.int .i64 t275)) (fun _ hk => hk.2) (.int .i64 t276)) (fun _ hk => hk.2) (.slice Ao24 t277.length co24)) (fun _ hk => hk.2) (.slice Ao25 t280.length co25)) (fun _ hk => hk.2) (.slice Ao26 t283.length co26)) (fun _ h_ => h_.1))) hb); have n3_ := A0s.mk (Kd.R_below (by (with_reducible repeat (first | apply Kd.RA | apply Kd.RN | apply Kd.RD)); exact (Kd.R_mono (Kd.R_far (p := ⟨gb286, 6, none⟩) (Kd.R_far (p := ⟨gb286, 5, none⟩) (Kd.R_far (p := ⟨gb286, 4, none⟩) (Kd.R_far (p := ⟨gb286, 3, none⟩) (Kd.R_far (p := ⟨gb286, 2, none⟩) (Kd.R_far (p := ⟨gb286, 1, none⟩) (Kd.R_far (p := ⟨gb286, 0, none⟩) (Kd.R_types HO272.out BK286.out (by decide)) (fun _ hk => hk.2) (.int .i64 t273)) (fun _ hk => hk.2) (.int .i64 t274)) (fun _ hk => hk.2) (.int .i64 t275)) (fun _ hk => hk.2) (.int .i64 t276)) (fun _ hk => hk.2) (.slice Ao24 t277.length co24)) (fun _ hk => hk.2) (.slice Ao25 t280.length co25)) (fun _ hk => hk.2) (.slice Ao26 t283.length co26)) (fun _ h_ => h_.1))) hb); have n4_ := A0s.mk (Kd.R_below (by (with_reducible repeat (first | apply Kd.RA | apply Kd.RN | apply Kd.RD)); exact (Kd.R_mono (Kd.R_far (p := ⟨gb286, 6, none⟩) (Kd.R_far (p := ⟨gb286, 5, none⟩) (Kd.R_far (p := ⟨gb286, 4, none⟩) (Kd.R_far (p := ⟨gb286, 3, none⟩) (Kd.R_far (p := ⟨gb286, 2, none⟩) (Kd.R_far (p := ⟨gb286, 1, none⟩) (Kd.R_far (p := ⟨gb286, 0, none⟩) (Kd.R_types HO279.out BK286.out (by decide)) (fun _ hk => hk.2) (.int .i64 t273)) (fun _ hk => hk.2) (.int .i64 t274)) (fun _ hk => hk.2) (.int .i64 t275)) (fun _ hk => hk.2) (.int .i64 t276)) (fun _ hk => hk.2) (.slice Ao24 t277.length co24)) (fun _ hk => hk.2) (.slice Ao25 t280.length co25)) (fun _ hk => hk.2) (.slice Ao26 t283.length co26)) (fun _ h_ => h_.1))) hb); have n5_ := A0s.mk (Kd.R_below (by (with_reducible repeat (first | apply Kd.RA | apply Kd.RN | apply Kd.RD)); exact (Kd.R_mono (Kd.R_far (p := ⟨gb286, 6, none⟩) (Kd.R_far (p := ⟨gb286, 5, none⟩) (Kd.R_far (p := ⟨gb286, 4, none⟩) (Kd.R_far (p := ⟨gb286, 3, none⟩) (Kd.R_far (p := ⟨gb286, 2, none⟩) (Kd.R_far (p := ⟨gb286, 1, none⟩) (Kd.R_far (p := ⟨gb286, 0, none⟩) (Kd.R_types HO282.out BK286.out (by decide)) (fun _ hk => hk.2) (.int .i64 t273)) (fun _ hk => hk.2) (.int .i64 t274)) (fun _ hk => hk.2) (.int .i64 t275)) (fun _ hk => hk.2) (.int .i64 t276)) (fun _ hk => hk.2) (.slice Ao24 t277.length co24)) (fun _ hk => hk.2) (.slice Ao25 t280.length co25)) (fun _ hk => hk.2) (.slice Ao26 t283.length co26)) (fun _ h_ => h_.1))) hb); have n6_ := A0s.mk (Kd.R_below (by (with_reducible repeat (first | apply Kd.RA | apply Kd.RN | apply Kd.RD)); exact (Kd.R_mono (Kd.R_far (p := ⟨gb286, 6, none⟩) (Kd.R_far (p := ⟨gb286, 5, none⟩) (Kd.R_far (p := ⟨gb286, 4, none⟩) (Kd.R_far (p := ⟨gb286, 3, none⟩) (Kd.R_far (p := ⟨gb286, 2, none⟩) (Kd.R_far (p := ⟨gb286, 1, none⟩) (Kd.R_far (p := ⟨gb286, 0, none⟩) (Kd.R_types HO285.out BK286.out (by decide)) (fun _ hk => hk.2) (.int .i64 t273)) (fun _ hk => hk.2) (.int .i64 t274)) (fun _ hk => hk.2) (.int .i64 t275)) (fun _ hk => hk.2) (.int .i64 t276)) (fun _ hk => hk.2) (.slice Ao24 t277.length co24)) (fun _ hk => hk.2) (.slice Ao25 t280.length co25)) (fun _ hk => hk.2) (.slice Ao26 t283.length co26)) (fun _ h_ => h_.1))) hb); have n7_ := A0s.mk (blk_below (g := gb286) (o := .cells #[.int .i64 t273, .int .i64 t274, .int .i64 t275, .int .i64 t276, .slice Ao24 t277.length co24, .slice Ao25 t280.length co25, .slice Ao26 t283.length co26] 90 (0, 0)) (by (with_reducible repeat (first | apply kN | apply kD | apply kA)); refine blk_put (cs := #[.int .i64 t273, .int .i64 t274, .int .i64 t275, .int .i64 t276, .slice Ao24 t277.length co24, .slice Ao25 t280.length co25, .slice none 0 0]) ?_ 6 _ rfl; (with_reducible repeat (first | apply kN | apply kD | apply kA)); refine blk_put (cs := #[.int .i64 t273, .int .i64 t274, .int .i64 t275, .int .i64 t276, .slice Ao24 t277.length co24, .slice none 0 0, .slice none 0 0]) ?_ 5 _ rfl; (with_reducible repeat (first | apply kN | apply kD | apply kA)); refine blk_put (cs := #[.int .i64 t273, .int .i64 t274, .int .i64 t275, .int .i64 t276, .slice none 0 0, .slice none 0 0, .slice none 0 0]) ?_ 4 _ rfl; (with_reducible repeat (first | apply kN | apply kD | apply kA)); refine blk_put (cs := #[.int .i64 t273, .int .i64 t274, .int .i64 t275, .int .i64 0, .slice none 0 0, .slice none 0 0, .slice none 0 0]) ?_ 3 _ rfl; (with_reducible repeat (first | apply kN | apply kD | apply kA)); refine blk_put (cs := #[.int .i64 t273, .int .i64 t274, .int .i64 0, .int .i64 0, .slice none 0 0, .slice none 0 0, .slice none 0 0]) ?_ 2 _ rfl; (with_reducible repeat (first | apply kN | apply kD | apply kA)); refine blk_put (cs := #[.int .i64 t273, .int .i64 0, .int .i64 0, .int .i64 0, .slice none 0 0, .slice none 0 0, .slice none 0 0]) ?_ 1 _ rfl; (with_reducible repeat (first | apply kN | apply kD | apply kA)); refine blk_put (cs := #[.int .i64 0, .int .i64 0, .int .i64 0, .int .i64 0, .slice none 0 0, .slice none 0 0, .slice none 0 0]) ?_ 0 _ rfl; (with_reducible repeat (first | apply kN | apply kD | apply kA)); exact BK286.out) hb); have n8_ := A0s.mk (below_step (by repeat (first | (with_reducible first | exact HB.out | apply bA | apply bN | apply bD | refine bS ?_ GE286.out) | exact HB.out)) hb); clear HO259; clear HO266; clear HO269; clear HO272; clear HO279; clear HO282; clear HO285; clear BK286; clear HB; have HO259 := n0_; have HO266 := n1_; have HO269 := n2_; have HO272 := n3_; have HO279 := n4_; have HO282 := n5_; have HO285 := n6_; have BK286 := n7_; have HB := n8_; clear n0_ n1_ n2_ n3_ n4_ n5_ n6_ n7_ n8_; (try clear hb); (try clear hb2); (try clear hk); (try clear hi); obtain ⟨hcz28_0, hcz28_1, hcz28_2, hcz28_3, hcz28_4, hcz28_5, hcz28_6, hfz28_0, hfz28_1, hfz28_2, hfz28_3, hfz28_4, hfz28_5, hfz28_6⟩ := blk_all7 BK286.out) | ((with_reducible refine gC (f := 53) rfl ?_); refine gL (some 20) rfl rfl Try.func53 (by kernel_rfl) rfl #[.agg #[.int .i64 t273, .int .i64 t274, .int .i64 t275, .int .i64 t276, .slice Ao24 t277.length co24, .slice Ao25 t280.length co25, .slice Ao26 t283.length co26], .agg #[.int .i64 0, .int .i64 0, .bool false, .int .i64 105, .int .i64 2, .int .i64 0, .int .i64 0]] rfl (by (try simp only [List.map_toArray, List.map_cons, List.map_nil]); first | done | rfl | (simp only [List.length_drop, List.length_take]; rfl)) ?_; (with_reducible refine (rules_Look.calls k t273 t274 t275 t276 _ _ t277 _ _ t280 _ _ t283 0 0 false 105 2 0 0 t289 t290 _ ?side1 ?side2 ?side3 ?side4 ?side5 ?side6 A4.out).mono ?_); (case side1 => repeat (first | exact (Kd.R_reads' HO279.out).2.2 | (with_reducible refine Kd.C_alloc ?_ _) | (with_reducible refine Kd.C_drewN ?_ _) | (with_reducible refine Kd.C_drew ?_))); (case side2 => exact (Kd.R_reads' HO279.out).2.1); (case side3 => repeat (first | exact (Kd.R_reads' HO282.out).2.2 | (with_reducible refine Kd.C_alloc ?_ _) | (with_reducible refine Kd.C_drewN ?_ _) | (with_reducible refine Kd.C_drew ?_))); (case side4 => exact (Kd.R_reads' HO282.out).2.1); (case side5 => repeat (first | exact (Kd.R_reads' HO285.out).2.2 | (with_reducible refine Kd.C_alloc ?_ _) | (with_reducible refine Kd.C_drewN ?_ _) | (with_reducible refine Kd.C_drew ?_))); (case side6 => exact (Kd.R_reads' HO285.out).2.1); rintro e w29 ⟨rfl, hb⟩; refine ⟨_, rfl, ?_⟩; have n0_ := A0s.mk (Kd.R_below (by (with_reducible repeat (first | apply Kd.RA | apply Kd.RN | apply Kd.RD)); exact HO259.out) hb); have n1_ := A0s.mk (Kd.R_below (by (with_reducible repeat (first | apply Kd.RA | apply Kd.RN | apply Kd.RD)); exact HO266.out) hb); have n2_ := A0s.mk (Kd.R_below (by (with_reducible repeat (first | apply Kd.RA | apply Kd.RN | apply Kd.RD)); exact HO269.out) hb); have n3_ := A0s.mk (Kd.R_below (by (with_reducible repeat (first | apply Kd.RA | apply Kd.RN | apply Kd.RD)); exact HO272.out) hb); have n4_ := A0s.mk (Kd.R_below (by (with_reducible repeat (first | apply Kd.RA | apply Kd.RN | apply Kd.RD)); exact HO279.out) hb); have n5_ := A0s.mk (Kd.R_below (by (with_reducible repeat (first | apply Kd.RA | apply Kd.RN | apply Kd.RD)); exact HO282.out) hb); have n6_ := A0s.mk (Kd.R_below (by (with_reducible repeat (first | apply Kd.RA | apply Kd.RN | apply Kd.RD)); exact HO285.out) hb); have n7_ := A0s.mk (blk_below (g := gb286) (o := .cells #[.int .i64 t273, .int .i64 t274, .int .i64 t275, .int .i64 t276, .slice Ao24 t277.length co24, .slice Ao25 t280.length co25, .slice Ao26 t283.length co26] 90 (0, 0)) (by (with_reducible repeat (first | apply kN | apply kD | apply kA)); exact BK286.out) hb); have n8_ := A0s.mk (below_step (by repeat (first | (with_reducible first | exact HB.out | apply bA | apply bN | apply bD | refine bS ?_ GE286.out) | exact HB.out)) hb); clear HO259; clear HO266; clear HO269; clear HO272; clear HO279; clear HO282; clear HO285; clear BK286; clear HB; have HO259 := n0_; have HO266 := n1_; have HO269 := n2_; have HO272 := n3_; have HO279 := n4_; have HO282 := n5_; have HO285 := n6_; have BK286 := n7_; have HB := n8_; clear n0_ n1_ n2_ n3_ n4_ n5_ n6_ n7_ n8_; (try clear hb); (try clear hb2); (try clear hk); (try clear hi); obtain ⟨hcz30_0, hcz30_1, hcz30_2, hcz30_3, hcz30_4, hcz30_5, hcz30_6, hfz30_0, hfz30_1, hfz30_2, hfz30_3, hfz30_4, hfz30_5, hfz30_6⟩ := blk_all7 BK286.out) | ((with_reducible refine gC (f := 51) rfl ?_); refine gL (some 24) rfl rfl Try.func51 (by kernel_rfl) rfl #[.agg #[.int .i64 t273, .int .i64 t274, .int .i64 t275, .int .i64 t276, .slice Ao24 t277.length co24, .slice Ao25 t280.length co25, .slice Ao26 t283.length co26]] rfl (by (try simp only [List.map_toArray, List.map_cons, List.map_nil]); first | done | rfl | (simp only [List.length_drop, List.length_take]; rfl)) ?_; (with_reducible refine (rules_Check.calls k t273 t274 t275 t276 _ _ t277 _ _ t280 _ _ t283 t291 _ ?side1 ?side2 ?side3 ?side4 ?side5 ?side6 A5.out).mono ?_); (case side1 => repeat (first | exact (Kd.R_reads' HO279.out).2.2 | (with_reducible refine Kd.C_alloc ?_ _) | (with_reducible refine Kd.C_drewN ?_ _) | (with_reducible refine Kd.C_drew ?_))); (case side2 => exact (Kd.R_reads' HO279.out).2.1); (case side3 => repeat (first | exact (Kd.R_reads' HO282.out).2.2 | (with_reducible refine Kd.C_alloc ?_ _) | (with_reducible refine Kd.C_drewN ?_ _) | (with_reducible refine Kd.C_drew ?_))); (case side4 => exact (Kd.R_reads' HO282.out).2.1); (case side5 => repeat (first | exact (Kd.R_reads' HO285.out).2.2 | (with_reducible refine Kd.C_alloc ?_ _) | (with_reducible refine Kd.C_drewN ?_ _) | (with_reducible refine Kd.C_drew ?_))); (case side6 => exact (Kd.R_reads' HO285.out).2.1); rintro e w31 ⟨rfl, hb⟩; refine ⟨_, rfl, ?_⟩; have n0_ := A0s.mk (Kd.R_below (by (with_reducible repeat (first | apply Kd.RA | apply Kd.RN | apply Kd.RD)); exact HO259.out) hb); have n1_ := A0s.mk (Kd.R_below (by (with_reducible repeat (first | apply Kd.RA | apply Kd.RN | apply Kd.RD)); exact HO266.out) hb); have n2_ := A0s.mk (Kd.R_below (by (with_reducible repeat (first | apply Kd.RA | apply Kd.RN | apply Kd.RD)); exact HO269.out) hb); have n3_ := A0s.mk (Kd.R_below (by (with_reducible repeat (first | apply Kd.RA | apply Kd.RN | apply Kd.RD)); exact HO272.out) hb); have n4_ := A0s.mk (Kd.R_below (by (with_reducible repeat (first | apply Kd.RA | apply Kd.RN | apply Kd.RD)); exact HO279.out) hb); have n5_ := A0s.mk (Kd.R_below (by (with_reducible repeat (first | apply Kd.RA | apply Kd.RN | apply Kd.RD)); exact HO282.out) hb); have n6_ := A0s.mk (Kd.R_below (by (with_reducible repeat (first | apply Kd.RA | apply Kd.RN | apply Kd.RD)); exact HO285.out) hb); have n7_ := A0s.mk (blk_below (g := gb286) (o := .cells #[.int .i64 t273, .int .i64 t274, .int .i64 t275, .int .i64 t276, .slice Ao24 t277.length co24, .slice Ao25 t280.length co25, .slice Ao26 t283.length co26] 90 (0, 0)) (by (with_reducible repeat (first | apply kN | apply kD | apply kA)); exact BK286.out) hb); have n8_ := A0s.mk (below_step (by repeat (first | (with_reducible first | exact HB.out | apply bA | apply bN | apply bD | refine bS ?_ GE286.out) | exact HB.out)) hb); clear HO259; clear HO266; clear HO269; clear HO272; clear HO279; clear HO282; clear HO285; clear BK286; clear HB; have HO259 := n0_; have HO266 := n1_; have HO269 := n2_; have HO272 := n3_; have HO279 := n4_; have HO282 := n5_; have HO285 := n6_; have BK286 := n7_; have HB := n8_; clear n0_ n1_ n2_ n3_ n4_ n5_ n6_ n7_ n8_; (try clear hb); (try clear hb2); (try clear hk); (try clear hi); obtain ⟨hcz32_0, hcz32_1, hcz32_2, hcz32_3, hcz32_4, hcz32_5, hcz32_6, hfz32_0, hfz32_1, hfz32_2, hfz32_3, hfz32_4, hfz32_5, hfz32_6⟩ := blk_all7 BK286.out) | (go_at_call 55; (with_reducible refine (rules_Shard.calls t273 t274 t275 t276 _ _ t277 _ _ t280 _ _ t283 0 t292 _ ?side1 ?side2 ?side3 ?side4 ?side5 ?side6 A11.out).mono ?_); (case side1 => repeat (first | exact (Kd.R_reads' HO279.out).2.2 | (with_reducible refine Kd.C_alloc ?_ _) | (with_reducible refine Kd.C_drewN ?_ _) | (with_reducible refine Kd.C_drew ?_))); (case side2 => exact (Kd.R_reads' HO279.out).2.1); (case side3 => repeat (first | exact (Kd.R_reads' HO282.out).2.2 | (with_reducible refine Kd.C_alloc ?_ _) | (with_reducible refine Kd.C_drewN ?_ _) | (with_reducible refine Kd.C_drew ?_))); (case side4 => exact (Kd.R_reads' HO282.out).2.1); (case side5 => repeat (first | exact (Kd.R_reads' HO285.out).2.2 | (with_reducible refine Kd.C_alloc ?_ _) | (with_reducible refine Kd.C_drewN ?_ _) | (with_reducible refine Kd.C_drew ?_))); (case side6 => exact (Kd.R_reads' HO285.out).2.1); rintro e w33 ⟨rfl, hb⟩; have n0_ := A0s.mk (Kd.R_below (by (with_reducible repeat (first | apply Kd.RA | apply Kd.RN | apply Kd.RD)); exact HO259.out) hb); have n1_ := A0s.mk (Kd.R_below (by (with_reducible repeat (first | apply Kd.RA | apply Kd.RN | apply Kd.RD)); exact HO266.out) hb); have n2_ := A0s.mk (Kd.R_below (by (with_reducible repeat (first | apply Kd.RA | apply Kd.RN | apply Kd.RD)); exact HO269.out) hb); have n3_ := A0s.mk (Kd.R_below (by (with_reducible repeat (first | apply Kd.RA | apply Kd.RN | apply Kd.RD)); exact HO272.out) hb); have n4_ := A0s.mk (Kd.R_below (by (with_reducible repeat (first | apply Kd.RA | apply Kd.RN | apply Kd.RD)); exact HO279.out) hb); have n5_ := A0s.mk (Kd.R_below (by (with_reducible repeat (first | apply Kd.RA | apply Kd.RN | apply Kd.RD)); exact HO282.out) hb); have n6_ := A0s.mk (Kd.R_below (by (with_reducible repeat (first | apply Kd.RA | apply Kd.RN | apply Kd.RD)); exact HO285.out) hb); have n7_ := A0s.mk (blk_below (g := gb286) (o := .cells #[.int .i64 t273, .int .i64 t274, .int .i64 t275, .int .i64 t276, .slice Ao24 t277.length co24, .slice Ao25 t280.length co25, .slice Ao26 t283.length co26] 90 (0, 0)) (by (with_reducible repeat (first | apply kN | apply kD | apply kA)); exact BK286.out) hb); have n8_ := A0s.mk (below_step (by repeat (first | (with_reducible first | exact HB.out | apply bA | apply bN | apply bD | refine bS ?_ GE286.out) | exact HB.out)) hb); clear HO259; clear HO266; clear HO269; clear HO272; clear HO279; clear HO282; clear HO285; clear BK286; clear HB; have HO259 := n0_; have HO266 := n1_; have HO269 := n2_; have HO272 := n3_; have HO279 := n4_; have HO282 := n5_; have HO285 := n6_; have BK286 := n7_; have HB := n8_; clear n0_ n1_ n2_ n3_ n4_ n5_ n6_ n7_ n8_; (try clear hb); (try clear hb2); (try clear hk); (try clear hi); obtain ⟨hcz34_0, hcz34_1, hcz34_2, hcz34_3, hcz34_4, hcz34_5, hcz34_6, hfz34_0, hfz34_1, hfz34_2, hfz34_3, hfz34_4, hfz34_5, hfz34_6⟩ := blk_all7 BK286.out) | (go_at_call 55; (with_reducible refine (rules_Shard.calls t273 t274 t275 t276 _ _ t277 _ _ t280 _ _ t283 1 t293 _ ?side1 ?side2 ?side3 ?side4 ?side5 ?side6 A13.out).mono ?_); (case side1 => repeat (first | exact (Kd.R_reads' HO279.out).2.2 | (with_reducible refine Kd.C_alloc ?_ _) | (with_reducible refine Kd.C_drewN ?_ _) | (with_reducible refine Kd.C_drew ?_))); (case side2 => exact (Kd.R_reads' HO279.out).2.1); (case side3 => repeat (first | exact (Kd.R_reads' HO282.out).2.2 | (with_reducible refine Kd.C_alloc ?_ _) | (with_reducible refine Kd.C_drewN ?_ _) | (with_reducible refine Kd.C_drew ?_))); (case side4 => exact (Kd.R_reads' HO282.out).2.1); (case side5 => repeat (first | exact (Kd.R_reads' HO285.out).2.2 | (with_reducible refine Kd.C_alloc ?_ _) | (with_reducible refine Kd.C_drewN ?_ _) | (with_reducible refine Kd.C_drew ?_))); (case side6 => exact (Kd.R_reads' HO285.out).2.1); rintro e w35 ⟨rfl, hb⟩; have n0_ := A0s.mk (Kd.R_below (by (with_reducible repeat (first | apply Kd.RA | apply Kd.RN | apply Kd.RD)); exact HO259.out) hb); have n1_ := A0s.mk (Kd.R_below (by (with_reducible repeat (first | apply Kd.RA | apply Kd.RN | apply Kd.RD)); exact HO266.out) hb); have n2_ := A0s.mk (Kd.R_below (by (with_reducible repeat (first | apply Kd.RA | apply Kd.RN | apply Kd.RD)); exact HO269.out) hb); have n3_ := A0s.mk (Kd.R_below (by (with_reducible repeat (first | apply Kd.RA | apply Kd.RN | apply Kd.RD)); exact HO272.out) hb); have n4_ := A0s.mk (Kd.R_below (by (with_reducible repeat (first | apply Kd.RA | apply Kd.RN | apply Kd.RD)); exact HO279.out) hb); have n5_ := A0s.mk (Kd.R_below (by (with_reducible repeat (first | apply Kd.RA | apply Kd.RN | apply Kd.RD)); exact HO282.out) hb); have n6_ := A0s.mk (Kd.R_below (by (with_reducible repeat (first | apply Kd.RA | apply Kd.RN | apply Kd.RD)); exact HO285.out) hb); have n7_ := A0s.mk (blk_below (g := gb286) (o := .cells #[.int .i64 t273, .int .i64 t274, .int .i64 t275, .int .i64 t276, .slice Ao24 t277.length co24, .slice Ao25 t280.length co25, .slice Ao26 t283.length co26] 90 (0, 0)) (by (with_reducible repeat (first | apply kN | apply kD | apply kA)); exact BK286.out) hb); have n8_ := A0s.mk (below_step (by repeat (first | (with_reducible first | exact HB.out | apply bA | apply bN | apply bD | refine bS ?_ GE286.out) | exact HB.out)) hb); clear HO259; clear HO266; clear HO269; clear HO272; clear HO279; clear HO282; clear HO285; clear BK286; clear HB; have HO259 := n0_; have HO266 := n1_; have HO269 := n2_; have HO272 := n3_; have HO279 := n4_; have HO282 := n5_; have HO285 := n6_; have BK286 := n7_; have HB := n8_; clear n0_ n1_ n2_ n3_ n4_ n5_ n6_ n7_ n8_; (try clear hb); (try clear hb2); (try clear hk); (try clear hi)))
       go_ret
       exact ⟨by first | rfl | (simp [errW_none, errW_some] <;> rfl) | (simp [*, errW_none, errW_some] <;> rfl), by repeat (first | (with_reducible first | exact HB.out | apply bA | apply bN | apply bD | refine bS ?_ GE286.out) | exact HB.out)⟩
      ·rw [if_neg c12] at H
       exact absurd H (by simp)
     ·rw [if_neg c10] at H
      exact absurd H (by simp)
    ·rw [if_neg c9] at H
     exact absurd H (by simp)
   ·rw [if_neg c8] at H
    exact absurd H (by simp)
  ·rw [if_neg c7] at H
   exact absurd H (by simp)
 ·rw [if_neg c6] at H
  exact absurd H (by simp)

/-! ### stopgateref01_Wide: function 124 -/
def stopgateref01_Wide.f (a0 : Int) (a1 : Int) : Option (Int × Int) := some (IntKind.u64.wrap ((IntKind.u64.wrap ((IntKind.u64.wrap ((IntKind.u64.wrap (Int.tdiv a0 4294967296)) * (IntKind.u64.wrap (Int.tdiv a1 4294967296)))) + (IntKind.u64.wrap (Int.tdiv (IntKind.u64.wrap ((IntKind.u64.wrap ((IntKind.u64.wrap (Int.tdiv a0 4294967296)) * (Int.tmod a1 4294967296))) + (IntKind.u64.wrap (Int.tdiv (IntKind.u64.wrap ((Int.tmod a0 4294967296) * (Int.tmod a1 4294967296))) 4294967296)))) 4294967296)))) + (IntKind.u64.wrap (Int.tdiv (IntKind.u64.wrap ((IntKind.u64.wrap ((Int.tmod a0 4294967296) * (IntKind.u64.wrap (Int.tdiv a1 4294967296)))) + (Int.tmod (IntKind.u64.wrap ((IntKind.u64.wrap ((IntKind.u64.wrap (Int.tdiv a0 4294967296)) * (Int.tmod a1 4294967296))) + (IntKind.u64.wrap (Int.tdiv (IntKind.u64.wrap ((Int.tmod a0 4294967296) * (Int.tmod a1 4294967296))) 4294967296)))) 4294967296))) 4294967296))), IntKind.u64.wrap ((IntKind.u64.wrap ((Int.tmod (IntKind.u64.wrap ((IntKind.u64.wrap ((Int.tmod a0 4294967296) * (IntKind.u64.wrap (Int.tdiv a1 4294967296)))) + (Int.tmod (IntKind.u64.wrap ((IntKind.u64.wrap ((IntKind.u64.wrap (Int.tdiv a0 4294967296)) * (Int.tmod a1 4294967296))) + (IntKind.u64.wrap (Int.tdiv (IntKind.u64.wrap ((Int.tmod a0 4294967296) * (Int.tmod a1 4294967296))) 4294967296)))) 4294967296))) 4294967296) * 4294967296)) + (Int.tmod (IntKind.u64.wrap ((Int.tmod a0 4294967296) * (Int.tmod a1 4294967296))) 4294967296)))
set_option maxHeartbeats 8000000 in
set_option maxRecDepth 100000 in
theorem stopgateref01_Wide.calls (a0 : Int) (a1 : Int) (r1 : Int) (r2 : Int) (w : World) (h : stopgateref01_Wide.f a0 a1 = some (r1, r2)) :
  Calls Try.prog 124 #[.int .u64 a0, .int .u64 a1] w fun e w' => e = .returned (.tuple #[.int .u64 r1, .int .u64 r2]) ∧ Drawn0 w w' := by
 have H : (some (IntKind.u64.wrap ((IntKind.u64.wrap ((IntKind.u64.wrap ((IntKind.u64.wrap (Int.tdiv a0 4294967296)) * (IntKind.u64.wrap (Int.tdiv a1 4294967296)))) + (IntKind.u64.wrap (Int.tdiv (IntKind.u64.wrap ((IntKind.u64.wrap ((IntKind.u64.wrap (Int.tdiv a0 4294967296)) * (Int.tmod a1 4294967296))) + (IntKind.u64.wrap (Int.tdiv (IntKind.u64.wrap ((Int.tmod a0 4294967296) * (Int.tmod a1 4294967296))) 4294967296)))) 4294967296)))) + (IntKind.u64.wrap (Int.tdiv (IntKind.u64.wrap ((IntKind.u64.wrap ((Int.tmod a0 4294967296) * (IntKind.u64.wrap (Int.tdiv a1 4294967296)))) + (Int.tmod (IntKind.u64.wrap ((IntKind.u64.wrap ((IntKind.u64.wrap (Int.tdiv a0 4294967296)) * (Int.tmod a1 4294967296))) + (IntKind.u64.wrap (Int.tdiv (IntKind.u64.wrap ((Int.tmod a0 4294967296) * (Int.tmod a1 4294967296))) 4294967296)))) 4294967296))) 4294967296))), IntKind.u64.wrap ((IntKind.u64.wrap ((Int.tmod (IntKind.u64.wrap ((IntKind.u64.wrap ((Int.tmod a0 4294967296) * (IntKind.u64.wrap (Int.tdiv a1 4294967296)))) + (Int.tmod (IntKind.u64.wrap ((IntKind.u64.wrap ((IntKind.u64.wrap (Int.tdiv a0 4294967296)) * (Int.tmod a1 4294967296))) + (IntKind.u64.wrap (Int.tdiv (IntKind.u64.wrap ((Int.tmod a0 4294967296) * (Int.tmod a1 4294967296))) 4294967296)))) 4294967296))) 4294967296) * 4294967296)) + (Int.tmod (IntKind.u64.wrap ((Int.tmod a0 4294967296) * (Int.tmod a1 4294967296))) 4294967296)))) = some (r1, r2) := h
 clear h
 simp only [Option.some.injEq, Prod.mk.injEq] at H
 obtain ⟨rfl, rfl⟩ := H
 go_enter Try.func124, Try.ntmps124
 go_wp2
 go_ret2
 exact ⟨by first | rfl | (simp; done) | (simp [*]; done), by repeat (first | exact Drawn0.refl _ | apply Drawn0.step)⟩

/-! ### stopgateref01_size: function 125 -/
def stopgateref01_size.f (a0 : Int) : Option (Int) := if a0 < 0 then (some (IntKind.u64.wrap ((IntKind.u64.wrap (wrap64 (-(wrap64 (a0 + 1))))) + 1))) else (some (IntKind.u64.wrap (a0)))
set_option maxHeartbeats 8000000 in
set_option maxRecDepth 100000 in
theorem stopgateref01_size.calls (a0 : Int) (r : Int) (w : World) (h : stopgateref01_size.f a0 = some r) :
  Calls Try.prog 125 #[.int .i64 a0] w fun e w' => e = .returned (.int .u64 r) ∧ Drawn0 w w' := by
 have H : (if a0 < 0 then (some (IntKind.u64.wrap ((IntKind.u64.wrap (wrap64 (-(wrap64 (a0 + 1))))) + 1))) else (some (IntKind.u64.wrap (a0)))) = some r := h
 clear h
 by_cases c2 : a0 < 0
 ·rw [if_pos c2] at H
  have c2b0 : decide (a0 < 0) = true := decide_eq_true c2
  clear c2
  obtain rfl := Option.some.inj H
  go_enter Try.func125, Try.ntmps125
  go_wp2
  go_ret
  exact ⟨by first | rfl | (simp; done) | (simp [*]; done), by repeat (first | exact Drawn0.refl _ | apply Drawn0.step)⟩
 ·rw [if_neg c2] at H
  have c2b0 : decide (a0 < 0) = false := decide_eq_false c2
  clear c2
  obtain rfl := Option.some.inj H
  go_enter Try.func125, Try.ntmps125
  go_wp2
  go_ret
  exact ⟨by first | rfl | (simp; done) | (simp [*]; done), by repeat (first | exact Drawn0.refl _ | apply Drawn0.step)⟩

/-! ### stopgateref01_Mul: function 116 -/
def stopgateref01_Mul.f (a0 : Int) (a1 : Int) : Option (Int × Bool) := (stopgateref01_size.f a0).bind fun t294 => ((stopgateref01_size.f a1).bind fun t295 => ((stopgateref01_Wide.f t294 t295).bind fun bt296 => (if bt296.1 = 0 then (if ((decide (a0 < 0)) == (decide (a1 < 0))) = true then (if bt296.2 > 9223372036854775807 then (some (0, false)) else (some (wrap64 (bt296.2), true))) else (if bt296.2 > 9223372036854775808 then (some (0, false)) else (if bt296.2 = 0 then (some (0, true)) else (some (wrap64 ((wrap64 (-(wrap64 (IntKind.u64.wrap (bt296.2 - 1))))) - 1), true))))) else (some (0, false)))))
set_option maxHeartbeats 8000000 in
set_option maxRecDepth 100000 in
theorem stopgateref01_Mul.calls (a0 : Int) (a1 : Int) (r1 : Int) (r2 : Bool) (w : World) (h : stopgateref01_Mul.f a0 a1 = some (r1, r2)) :
  Calls Try.prog 116 #[.int .i64 a0, .int .i64 a1] w fun e w' => e = .returned (.tuple #[.int .i64 r1, .bool r2]) ∧ Drawn0 w w' := by
 have H : ((stopgateref01_size.f a0).bind fun t294 => ((stopgateref01_size.f a1).bind fun t295 => ((stopgateref01_Wide.f t294 t295).bind fun bt296 => (if bt296.1 = 0 then (if ((decide (a0 < 0)) == (decide (a1 < 0))) = true then (if bt296.2 > 9223372036854775807 then (some (0, false)) else (some (wrap64 (bt296.2), true))) else (if bt296.2 > 9223372036854775808 then (some (0, false)) else (if bt296.2 = 0 then (some (0, true)) else (some (wrap64 ((wrap64 (-(wrap64 (IntKind.u64.wrap (bt296.2 - 1))))) - 1), true))))) else (some (0, false)))))) = some (r1, r2) := h
 clear h
 replace H := Option.bind_eq_some_iff.mp H
 obtain ⟨t294, A30, H⟩ := H
 replace H : ((stopgateref01_size.f a1).bind fun t295 => ((stopgateref01_Wide.f t294 t295).bind fun bt296 => (if bt296.1 = 0 then (if ((decide (a0 < 0)) == (decide (a1 < 0))) = true then (if bt296.2 > 9223372036854775807 then (some (0, false)) else (some (wrap64 (bt296.2), true))) else (if bt296.2 > 9223372036854775808 then (some (0, false)) else (if bt296.2 = 0 then (some (0, true)) else (some (wrap64 ((wrap64 (-(wrap64 (IntKind.u64.wrap (bt296.2 - 1))))) - 1), true))))) else (some (0, false))))) = some (r1, r2) := H
 have A3 := A0s.mk A30
 clear A30
 replace H := Option.bind_eq_some_iff.mp H
 obtain ⟨t295, A40, H⟩ := H
 replace H : ((stopgateref01_Wide.f t294 t295).bind fun bt296 => (if bt296.1 = 0 then (if ((decide (a0 < 0)) == (decide (a1 < 0))) = true then (if bt296.2 > 9223372036854775807 then (some (0, false)) else (some (wrap64 (bt296.2), true))) else (if bt296.2 > 9223372036854775808 then (some (0, false)) else (if bt296.2 = 0 then (some (0, true)) else (some (wrap64 ((wrap64 (-(wrap64 (IntKind.u64.wrap (bt296.2 - 1))))) - 1), true))))) else (some (0, false)))) = some (r1, r2) := H
 have A4 := A0s.mk A40
 clear A40
 replace H := Option.bind_eq_some_iff.mp H
 obtain ⟨⟨t296, t297⟩, A50, H⟩ := H
 replace H : (if t296 = 0 then (if ((decide (a0 < 0)) == (decide (a1 < 0))) = true then (if t297 > 9223372036854775807 then (some (0, false)) else (some (wrap64 (t297), true))) else (if t297 > 9223372036854775808 then (some (0, false)) else (if t297 = 0 then (some (0, true)) else (some (wrap64 ((wrap64 (-(wrap64 (IntKind.u64.wrap (t297 - 1))))) - 1), true))))) else (some (0, false))) = some (r1, r2) := H
 have A5 := A0s.mk A50
 clear A50
 by_cases c6 : t296 = 0
 ·rw [if_pos c6] at H
  have c6b0 : (t296 == 0) = true := beq_iff_eq.mpr c6
  have c6b1 : (t296 != 0) = false := bne_eq_false_iff_eq.mpr c6
  clear c6
  by_cases c7 : ((decide (a0 < 0)) == (decide (a1 < 0))) = true
  ·rw [if_pos c7] at H
   have c7b0 : ((decide (a0 < 0)) == (decide (a1 < 0))) = true := c7
   (try (have c7b1 : decide ((decide (a0 < 0)) = (decide (a1 < 0))) = true := by simpa using c7))
   (try (have c7b2 : ((decide (a0 < 0)) == (decide (a1 < 0))) = true := by simpa using c7))
   clear c7
   by_cases c8 : t297 > 9223372036854775807
   ·rw [if_pos c8] at H
    have c8b0 : decide (9223372036854775807 < t297) = true := decide_eq_true c8
    clear c8
    simp only [Option.some.injEq, Prod.mk.injEq] at H
    obtain ⟨rfl, rfl⟩ := H
    go_enter Try.func116, Try.ntmps116
    go_wp2_with (first | ((with_reducible refine gC (f := 125) rfl ?_); refine gL (some 10) rfl rfl Try.func125 (by kernel_rfl) rfl #[.int .i64 a0] rfl (by (try simp only [List.map_toArray, List.map_cons, List.map_nil]); first | done | rfl | (simp only [List.length_drop, List.length_take]; rfl)) ?_; (with_reducible refine (stopgateref01_size.calls a0 t294 _ A3.out).mono ?_); rintro e w' ⟨rfl, ⟨nd, rfl⟩⟩; refine ⟨_, rfl, ?_⟩) | ((with_reducible refine gC (f := 125) rfl ?_); refine gL (some 12) rfl rfl Try.func125 (by kernel_rfl) rfl #[.int .i64 a1] rfl (by (try simp only [List.map_toArray, List.map_cons, List.map_nil]); first | done | rfl | (simp only [List.length_drop, List.length_take]; rfl)) ?_; (with_reducible refine (stopgateref01_size.calls a1 t295 _ A4.out).mono ?_); rintro e w' ⟨rfl, ⟨nd, rfl⟩⟩; refine ⟨_, rfl, ?_⟩) | ((with_reducible refine gC (f := 124) rfl ?_); refine gL (some 13) rfl rfl Try.func124 (by kernel_rfl) rfl #[.int .u64 t294, .int .u64 t295] rfl (by (try simp only [List.map_toArray, List.map_cons, List.map_nil]); first | done | rfl | (simp only [List.length_drop, List.length_take]; rfl)) ?_; (with_reducible refine (stopgateref01_Wide.calls t294 t295 t296 t297 _ A5.out).mono ?_); rintro e w' ⟨rfl, ⟨nd, rfl⟩⟩; refine ⟨_, rfl, ?_⟩))
    go_ret2
    exact ⟨by first | rfl | (simp; done) | (simp [*]; done), by repeat (first | exact Drawn0.refl _ | apply Drawn0.step)⟩
   ·rw [if_neg c8] at H
    have c8b0 : decide (9223372036854775807 < t297) = false := decide_eq_false c8
    clear c8
    simp only [Option.some.injEq, Prod.mk.injEq] at H
    obtain ⟨rfl, rfl⟩ := H
    go_enter Try.func116, Try.ntmps116
    go_wp2_with (first | ((with_reducible refine gC (f := 125) rfl ?_); refine gL (some 10) rfl rfl Try.func125 (by kernel_rfl) rfl #[.int .i64 a0] rfl (by (try simp only [List.map_toArray, List.map_cons, List.map_nil]); first | done | rfl | (simp only [List.length_drop, List.length_take]; rfl)) ?_; (with_reducible refine (stopgateref01_size.calls a0 t294 _ A3.out).mono ?_); rintro e w' ⟨rfl, ⟨nd, rfl⟩⟩; refine ⟨_, rfl, ?_⟩) | ((with_reducible refine gC (f := 125) rfl ?_); refine gL (some 12) rfl rfl Try.func125 (by kernel_rfl) rfl #[.int .i64 a1] rfl (by (try simp only [List.map_toArray, List.map_cons, List.map_nil]); first | done | rfl | (simp only [List.length_drop, List.length_take]; rfl)) ?_; (with_reducible refine (stopgateref01_size.calls a1 t295 _ A4.out).mono ?_); rintro e w' ⟨rfl, ⟨nd, rfl⟩⟩; refine ⟨_, rfl, ?_⟩) | ((with_reducible refine gC (f := 124) rfl ?_); refine gL (some 13) rfl rfl Try.func124 (by kernel_rfl) rfl #[.int .u64 t294, .int .u64 t295] rfl (by (try simp only [List.map_toArray, List.map_cons, List.map_nil]); first | done | rfl | (simp only [List.length_drop, List.length_take]; rfl)) ?_; (with_reducible refine (stopgateref01_Wide.calls t294 t295 t296 t297 _ A5.out).mono ?_); rintro e w' ⟨rfl, ⟨nd, rfl⟩⟩; refine ⟨_, rfl, ?_⟩))
    go_ret2
    exact ⟨by first | rfl | (simp; done) | (simp [*]; done), by repeat (first | exact Drawn0.refl _ | apply Drawn0.step)⟩
  ·rw [if_neg c7] at H
   have c7b0 : ((decide (a0 < 0)) == (decide (a1 < 0))) = false := by simpa using c7
   (try (have c7b1 : decide ((decide (a0 < 0)) = (decide (a1 < 0))) = false := by simpa using c7))
   (try (have c7b2 : ((decide (a0 < 0)) == (decide (a1 < 0))) = false := by simpa using c7))
   (try (have c7b3 : ¬ ((decide (a0 < 0)) = (decide (a1 < 0))) := by simpa using c7))
   clear c7
   by_cases c9 : t297 > 9223372036854775808
   ·rw [if_pos c9] at H
    have c9b0 : decide (9223372036854775808 < t297) = true := decide_eq_true c9
    clear c9
    simp only [Option.some.injEq, Prod.mk.injEq] at H
    obtain ⟨rfl, rfl⟩ := H
    go_enter Try.func116, Try.ntmps116
    go_wp2_with (first | ((with_reducible refine gC (f := 125) rfl ?_); refine gL (some 10) rfl rfl Try.func125 (by kernel_rfl) rfl #[.int .i64 a0] rfl (by (try simp only [List.map_toArray, List.map_cons, List.map_nil]); first | done | rfl | (simp only [List.length_drop, List.length_take]; rfl)) ?_; (with_reducible refine (stopgateref01_size.calls a0 t294 _ A3.out).mono ?_); rintro e w' ⟨rfl, ⟨nd, rfl⟩⟩; refine ⟨_, rfl, ?_⟩) | ((with_reducible refine gC (f := 125) rfl ?_); refine gL (some 12) rfl rfl Try.func125 (by kernel_rfl) rfl #[.int .i64 a1] rfl (by (try simp only [List.map_toArray, List.map_cons, List.map_nil]); first | done | rfl | (simp only [List.length_drop, List.length_take]; rfl)) ?_; (with_reducible refine (stopgateref01_size.calls a1 t295 _ A4.out).mono ?_); rintro e w' ⟨rfl, ⟨nd, rfl⟩⟩; refine ⟨_, rfl, ?_⟩) | ((with_reducible refine gC (f := 124) rfl ?_); refine gL (some 13) rfl rfl Try.func124 (by kernel_rfl) rfl #[.int .u64 t294, .int .u64 t295] rfl (by (try simp only [List.map_toArray, List.map_cons, List.map_nil]); first | done | rfl | (simp only [List.length_drop, List.length_take]; rfl)) ?_; (with_reducible refine (stopgateref01_Wide.calls t294 t295 t296 t297 _ A5.out).mono ?_); rintro e w' ⟨rfl, ⟨nd, rfl⟩⟩; refine ⟨_, rfl, ?_⟩))
    go_ret2
    exact ⟨by first | rfl | (simp; done) | (simp [*]; done), by repeat (first | exact Drawn0.refl _ | apply Drawn0.step)⟩
   ·rw [if_neg c9] at H
    have c9b0 : decide (9223372036854775808 < t297) = false := decide_eq_false c9
    clear c9
    by_cases c10 : t297 = 0
    ·rw [if_pos c10] at H
     have c10b0 : (t297 == 0) = true := beq_iff_eq.mpr c10
     have c10b1 : (t297 != 0) = false := bne_eq_false_iff_eq.mpr c10
     clear c10
     simp only [Option.some.injEq, Prod.mk.injEq] at H
     obtain ⟨rfl, rfl⟩ := H
     go_enter Try.func116, Try.ntmps116
     go_wp2_with (first | ((with_reducible refine gC (f := 125) rfl ?_); refine gL (some 10) rfl rfl Try.func125 (by kernel_rfl) rfl #[.int .i64 a0] rfl (by (try simp only [List.map_toArray, List.map_cons, List.map_nil]); first | done | rfl | (simp only [List.length_drop, List.length_take]; rfl)) ?_; (with_reducible refine (stopgateref01_size.calls a0 t294 _ A3.out).mono ?_); rintro e w' ⟨rfl, ⟨nd, rfl⟩⟩; refine ⟨_, rfl, ?_⟩) | ((with_reducible refine gC (f := 125) rfl ?_); refine gL (some 12) rfl rfl Try.func125 (by kernel_rfl) rfl #[.int .i64 a1] rfl (by (try simp only [List.map_toArray, List.map_cons, List.map_nil]); first | done | rfl | (simp only [List.length_drop, List.length_take]; rfl)) ?_; (with_reducible refine (stopgateref01_size.calls a1 t295 _ A4.out).mono ?_); rintro e w' ⟨rfl, ⟨nd, rfl⟩⟩; refine ⟨_, rfl, ?_⟩) | ((with_reducible refine gC (f := 124) rfl ?_); refine gL (some 13) rfl rfl Try.func124 (by kernel_rfl) rfl #[.int .u64 t294, .int .u64 t295] rfl (by (try simp only [List.map_toArray, List.map_cons, List.map_nil]); first | done | rfl | (simp only [List.length_drop, List.length_take]; rfl)) ?_; (with_reducible refine (stopgateref01_Wide.calls t294 t295 t296 t297 _ A5.out).mono ?_); rintro e w' ⟨rfl, ⟨nd, rfl⟩⟩; refine ⟨_, rfl, ?_⟩))
     go_ret2
     exact ⟨by first | rfl | (simp; done) | (simp [*]; done), by repeat (first | exact Drawn0.refl _ | apply Drawn0.step)⟩
    ·rw [if_neg c10] at H
     have c10b0 : (t297 == 0) = false := beq_eq_false_iff_ne.mpr c10
     have c10b1 : (t297 != 0) = true := bne_iff_ne.mpr c10
     simp only [Option.some.injEq, Prod.mk.injEq] at H
     obtain ⟨rfl, rfl⟩ := H
     go_enter Try.func116, Try.ntmps116
     go_wp2_with (first | ((with_reducible refine gC (f := 125) rfl ?_); refine gL (some 10) rfl rfl Try.func125 (by kernel_rfl) rfl #[.int .i64 a0] rfl (by (try simp only [List.map_toArray, List.map_cons, List.map_nil]); first | done | rfl | (simp only [List.length_drop, List.length_take]; rfl)) ?_; (with_reducible refine (stopgateref01_size.calls a0 t294 _ A3.out).mono ?_); rintro e w' ⟨rfl, ⟨nd, rfl⟩⟩; refine ⟨_, rfl, ?_⟩) | ((with_reducible refine gC (f := 125) rfl ?_); refine gL (some 12) rfl rfl Try.func125 (by kernel_rfl) rfl #[.int .i64 a1] rfl (by (try simp only [List.map_toArray, List.map_cons, List.map_nil]); first | done | rfl | (simp only [List.length_drop, List.length_take]; rfl)) ?_; (with_reducible refine (stopgateref01_size.calls a1 t295 _ A4.out).mono ?_); rintro e w' ⟨rfl, ⟨nd, rfl⟩⟩; refine ⟨_, rfl, ?_⟩) | ((with_reducible refine gC (f := 124) rfl ?_); refine gL (some 13) rfl rfl Try.func124 (by kernel_rfl) rfl #[.int .u64 t294, .int .u64 t295] rfl (by (try simp only [List.map_toArray, List.map_cons, List.map_nil]); first | done | rfl | (simp only [List.length_drop, List.length_take]; rfl)) ?_; (with_reducible refine (stopgateref01_Wide.calls t294 t295 t296 t297 _ A5.out).mono ?_); rintro e w' ⟨rfl, ⟨nd, rfl⟩⟩; refine ⟨_, rfl, ?_⟩))
     go_ret2
     exact ⟨by first | rfl | (simp; done) | (simp [*]; done), by repeat (first | exact Drawn0.refl _ | apply Drawn0.step)⟩
 ·rw [if_neg c6] at H
  have c6b0 : (t296 == 0) = false := beq_eq_false_iff_ne.mpr c6
  have c6b1 : (t296 != 0) = true := bne_iff_ne.mpr c6
  simp only [Option.some.injEq, Prod.mk.injEq] at H
  obtain ⟨rfl, rfl⟩ := H
  go_enter Try.func116, Try.ntmps116
  go_wp2_with (first | ((with_reducible refine gC (f := 125) rfl ?_); refine gL (some 10) rfl rfl Try.func125 (by kernel_rfl) rfl #[.int .i64 a0] rfl (by (try simp only [List.map_toArray, List.map_cons, List.map_nil]); first | done | rfl | (simp only [List.length_drop, List.length_take]; rfl)) ?_; (with_reducible refine (stopgateref01_size.calls a0 t294 _ A3.out).mono ?_); rintro e w' ⟨rfl, ⟨nd, rfl⟩⟩; refine ⟨_, rfl, ?_⟩) | ((with_reducible refine gC (f := 125) rfl ?_); refine gL (some 12) rfl rfl Try.func125 (by kernel_rfl) rfl #[.int .i64 a1] rfl (by (try simp only [List.map_toArray, List.map_cons, List.map_nil]); first | done | rfl | (simp only [List.length_drop, List.length_take]; rfl)) ?_; (with_reducible refine (stopgateref01_size.calls a1 t295 _ A4.out).mono ?_); rintro e w' ⟨rfl, ⟨nd, rfl⟩⟩; refine ⟨_, rfl, ?_⟩) | ((with_reducible refine gC (f := 124) rfl ?_); refine gL (some 13) rfl rfl Try.func124 (by kernel_rfl) rfl #[.int .u64 t294, .int .u64 t295] rfl (by (try simp only [List.map_toArray, List.map_cons, List.map_nil]); first | done | rfl | (simp only [List.length_drop, List.length_take]; rfl)) ?_; (with_reducible refine (stopgateref01_Wide.calls t294 t295 t296 t297 _ A5.out).mono ?_); rintro e w' ⟨rfl, ⟨nd, rfl⟩⟩; refine ⟨_, rfl, ?_⟩))
  go_ret2
  exact ⟨by first | rfl | (simp; done) | (simp [*]; done), by repeat (first | exact Drawn0.refl _ | apply Drawn0.step)⟩

/-! ### stopgateref01_Notional: function 95 -/
def stopgateref01_Notional.f (a0 : Int) (a1 : Int) : Option (Int × Bool) := if a0 < 0 then (some (0, false)) else (if a1 < 0 then (some (0, false)) else ((stopgateref01_Mul.f a0 a1).bind fun bt298 => (some (bt298.1, bt298.2))))
set_option maxHeartbeats 8000000 in
set_option maxRecDepth 100000 in
theorem stopgateref01_Notional.calls (a0 : Int) (a1 : Int) (r1 : Int) (r2 : Bool) (w : World) (h : stopgateref01_Notional.f a0 a1 = some (r1, r2)) :
  Calls Try.prog 95 #[.int .i64 a0, .int .i64 a1] w fun e w' => e = .returned (.tuple #[.int .i64 r1, .bool r2]) ∧ Drawn0 w w' := by
 have H : (if a0 < 0 then (some (0, false)) else (if a1 < 0 then (some (0, false)) else ((stopgateref01_Mul.f a0 a1).bind fun bt298 => (some (bt298.1, bt298.2))))) = some (r1, r2) := h
 clear h
 by_cases c3 : a0 < 0
 ·rw [if_pos c3] at H
  have c3b0 : decide (a0 < 0) = true := decide_eq_true c3
  clear c3
  simp only [Option.some.injEq, Prod.mk.injEq] at H
  obtain ⟨rfl, rfl⟩ := H
  go_enter Try.func95, Try.ntmps95
  go_wp2
  go_ret2
  exact ⟨by first | rfl | (simp; done) | (simp [*]; done), by repeat (first | exact Drawn0.refl _ | apply Drawn0.step)⟩
 ·rw [if_neg c3] at H
  have c3b0 : decide (a0 < 0) = false := decide_eq_false c3
  clear c3
  by_cases c4 : a1 < 0
  ·rw [if_pos c4] at H
   have c4b0 : decide (a1 < 0) = true := decide_eq_true c4
   clear c4
   simp only [Option.some.injEq, Prod.mk.injEq] at H
   obtain ⟨rfl, rfl⟩ := H
   go_enter Try.func95, Try.ntmps95
   go_wp2
   go_ret2
   exact ⟨by first | rfl | (simp; done) | (simp [*]; done), by repeat (first | exact Drawn0.refl _ | apply Drawn0.step)⟩
  ·rw [if_neg c4] at H
   have c4b0 : decide (a1 < 0) = false := decide_eq_false c4
   clear c4
   replace H := Option.bind_eq_some_iff.mp H
   obtain ⟨⟨t298, t299⟩, A50, H⟩ := H
   replace H : (some (t298, t299)) = some (r1, r2) := H
   have A5 := A0s.mk A50
   clear A50
   simp only [Option.some.injEq, Prod.mk.injEq] at H
   obtain ⟨rfl, rfl⟩ := H
   go_enter Try.func95, Try.ntmps95
   go_wp2_with (first | ((with_reducible refine gC (f := 116) rfl ?_); refine gL (some 14) rfl rfl Try.func116 (by kernel_rfl) rfl #[.int .i64 a0, .int .i64 a1] rfl (by (try simp only [List.map_toArray, List.map_cons, List.map_nil]); first | done | rfl | (simp only [List.length_drop, List.length_take]; rfl)) ?_; (with_reducible refine (stopgateref01_Mul.calls a0 a1 t298 t299 _ A5.out).mono ?_); rintro e w' ⟨rfl, ⟨nd, rfl⟩⟩; refine ⟨_, rfl, ?_⟩))
   go_ret2
   exact ⟨by first | rfl | (simp; done) | (simp [*]; done), by repeat (first | exact Drawn0.refl _ | apply Drawn0.step)⟩

/-! ### stopgateref02_far: function 126 -/
def stopgateref02_far.f (a0 : Int) (a1 : Nat) : Option (Int) := if (FloatKind.f64.format.mul (FloatKind.f64.nearest a0) a1).isSome = true then (if (FloatKind.f64.format.order ((FloatKind.f64.format.mul (FloatKind.f64.nearest a0) a1).getD 0) 4787326403894837248 == some .gt || FloatKind.f64.format.order ((FloatKind.f64.format.mul (FloatKind.f64.nearest a0) a1).getD 0) 4787326403894837248 == some .eq) = true then (some 1099511627776) else (if (floatToIntVal .f64 ((FloatKind.f64.format.mul (FloatKind.f64.nearest a0) a1).getD 0) .i64).isSome = true then (some ((floatToIntVal .f64 ((FloatKind.f64.format.mul (FloatKind.f64.nearest a0) a1).getD 0) .i64).getD 0)) else (none))) else (none)
set_option maxHeartbeats 8000000 in
set_option maxRecDepth 100000 in
theorem stopgateref02_far.calls (a0 : Int) (a1 : Nat) (r : Int) (w : World) (h : stopgateref02_far.f a0 a1 = some r) :
  Calls Try.prog 126 #[.int .i64 a0, .float .f64 a1] w fun e w' => e = .returned (.int .i64 r) ∧ Drawn0 w w' := by
 have hcv2_84 : ∀ (n_ : Int) (w_ : World), (convert 2 84 (.int .i64 n_)).run Try.prog w_ = .ok (.float .f64 (FloatKind.f64.nearest n_)) w_ := fun n_ w_ => by simp [convert, run_underlying Try.underlying2, run_underlying Try.underlying84, Conv.intToFloat]
 have hmul : ∀ (t_ : TypeId) (x_ y_ : Nat) (w_ : World), (FloatKind.f64.format.mul x_ y_).isSome = true → (binOp .mul t_ (.float .f64 x_) (.float .f64 y_)).run Try.prog w_ = .ok (.float .f64 ((FloatKind.f64.format.mul x_ y_).getD 0)) w_ := fun t_ x_ y_ w_ hn_ => run_fmul hn_
 have hcv84_2 : ∀ (n_ : Nat) (w_ : World), (floatToIntVal .f64 n_ .i64).isSome = true → (convert 84 2 (.float .f64 n_)).run Try.prog w_ = .ok (.int .i64 ((floatToIntVal .f64 n_ .i64).getD 0)) w_ := fun n_ w_ hn_ => run_cfi (by rw [Try.underlying84]; rfl) Try.underlying2 hn_
 have H : (if (FloatKind.f64.format.mul (FloatKind.f64.nearest a0) a1).isSome = true then (if (FloatKind.f64.format.order ((FloatKind.f64.format.mul (FloatKind.f64.nearest a0) a1).getD 0) 4787326403894837248 == some .gt || FloatKind.f64.format.order ((FloatKind.f64.format.mul (FloatKind.f64.nearest a0) a1).getD 0) 4787326403894837248 == some .eq) = true then (some 1099511627776) else (if (floatToIntVal .f64 ((FloatKind.f64.format.mul (FloatKind.f64.nearest a0) a1).getD 0) .i64).isSome = true then (some ((floatToIntVal .f64 ((FloatKind.f64.format.mul (FloatKind.f64.nearest a0) a1).getD 0) .i64).getD 0)) else (none))) else (none)) = some r := h
 clear h
 by_cases c3 : (FloatKind.f64.format.mul (FloatKind.f64.nearest a0) a1).isSome = true
 ·rw [if_pos c3] at H
  have c3b0 : (FloatKind.f64.format.mul (FloatKind.f64.nearest a0) a1).isSome = true := c3
  clear c3
  by_cases c4 : (FloatKind.f64.format.order ((FloatKind.f64.format.mul (FloatKind.f64.nearest a0) a1).getD 0) 4787326403894837248 == some .gt || FloatKind.f64.format.order ((FloatKind.f64.format.mul (FloatKind.f64.nearest a0) a1).getD 0) 4787326403894837248 == some .eq) = true
  ·rw [if_pos c4] at H
   have c4b0 : (FloatKind.f64.format.order ((FloatKind.f64.format.mul (FloatKind.f64.nearest a0) a1).getD 0) 4787326403894837248 == some .gt || FloatKind.f64.format.order ((FloatKind.f64.format.mul (FloatKind.f64.nearest a0) a1).getD 0) 4787326403894837248 == some .eq) = true := c4
   (try (have c4b1 : decide (FloatKind.f64.format.order ((FloatKind.f64.format.mul (FloatKind.f64.nearest a0) a1).getD 0) 4787326403894837248 = some .gt || FloatKind.f64.format.order ((FloatKind.f64.format.mul (FloatKind.f64.nearest a0) a1).getD 0) 4787326403894837248 == some .eq) = true := by simpa using c4))
   (try (have c4b2 : (FloatKind.f64.format.order ((FloatKind.f64.format.mul (FloatKind.f64.nearest a0) a1).getD 0) 4787326403894837248 == some .gt || FloatKind.f64.format.order ((FloatKind.f64.format.mul (FloatKind.f64.nearest a0) a1).getD 0) 4787326403894837248 == some .eq) = true := by simpa using c4))
   clear c4
   obtain rfl := Option.some.inj H
   go_enter Try.func126, Try.ntmps126
   go_wp2
   go_ret
   exact ⟨by first | rfl | (simp; done) | (simp [*]; done), by repeat (first | exact Drawn0.refl _ | apply Drawn0.step)⟩
  ·rw [if_neg c4] at H
   have c4b0 : (FloatKind.f64.format.order ((FloatKind.f64.format.mul (FloatKind.f64.nearest a0) a1).getD 0) 4787326403894837248 == some .gt || FloatKind.f64.format.order ((FloatKind.f64.format.mul (FloatKind.f64.nearest a0) a1).getD 0) 4787326403894837248 == some .eq) = false := by simpa using c4
   (try (have c4b1 : decide (FloatKind.f64.format.order ((FloatKind.f64.format.mul (FloatKind.f64.nearest a0) a1).getD 0) 4787326403894837248 = some .gt || FloatKind.f64.format.order ((FloatKind.f64.format.mul (FloatKind.f64.nearest a0) a1).getD 0) 4787326403894837248 == some .eq) = false := by simpa using c4))
   (try (have c4b2 : (FloatKind.f64.format.order ((FloatKind.f64.format.mul (FloatKind.f64.nearest a0) a1).getD 0) 4787326403894837248 == some .gt || FloatKind.f64.format.order ((FloatKind.f64.format.mul (FloatKind.f64.nearest a0) a1).getD 0) 4787326403894837248 == some .eq) = false := by simpa using c4))
   (try (have c4b3 : ¬ (FloatKind.f64.format.order ((FloatKind.f64.format.mul (FloatKind.f64.nearest a0) a1).getD 0) 4787326403894837248 = some .gt || FloatKind.f64.format.order ((FloatKind.f64.format.mul (FloatKind.f64.nearest a0) a1).getD 0) 4787326403894837248 == some .eq) := by simpa using c4))
   clear c4
   by_cases c5 : (floatToIntVal .f64 ((FloatKind.f64.format.mul (FloatKind.f64.nearest a0) a1).getD 0) .i64).isSome = true
   ·rw [if_pos c5] at H
    have c5b0 : (floatToIntVal .f64 ((FloatKind.f64.format.mul (FloatKind.f64.nearest a0) a1).getD 0) .i64).isSome = true := c5
    clear c5
    obtain rfl := Option.some.inj H
    go_enter Try.func126, Try.ntmps126
    go_wp2
    go_ret
    exact ⟨by first | rfl | (simp; done) | (simp [*]; done), by repeat (first | exact Drawn0.refl _ | apply Drawn0.step)⟩
   ·rw [if_neg c5] at H
    exact absurd H (by simp)
 ·rw [if_neg c3] at H
  exact absurd H (by simp)

/-! ### stopgateref02_Collar: function 117 -/
def stopgateref02_Collar.f (a0 : Int) (a1 : Nat) : Option (Int × Int × Bool) := (stopgateref02_Right.f a1).bind fun t300 => (if t300 = true then (if a0 < 1 then (some (0, 0, false)) else (if a0 > 1099511627776 then (some (0, 0, false)) else ((stopgateref02_far.f a0 a1).bind fun t301 => (some (mx (wrap64 (a0 - t301)) 1, mn (wrap64 (a0 + t301)) 1099511627776, true))))) else (some (0, 0, false)))
set_option maxHeartbeats 8000000 in
set_option maxRecDepth 100000 in
theorem stopgateref02_Collar.calls (a0 : Int) (a1 : Nat) (r1 : Int) (r2 : Int) (r3 : Bool) (w : World) (h : stopgateref02_Collar.f a0 a1 = some (r1, r2, r3)) :
  Calls Try.prog 117 #[.int .i64 a0, .float .f64 a1] w fun e w' => e = .returned (.tuple #[.int .i64 r1, .int .i64 r2, .bool r3]) ∧ Below w.heap.size w w' := by
 have HB := A0s.mk (Below.refl w.heap.size w)
 have H : ((stopgateref02_Right.f a1).bind fun t300 => (if t300 = true then (if a0 < 1 then (some (0, 0, false)) else (if a0 > 1099511627776 then (some (0, 0, false)) else ((stopgateref02_far.f a0 a1).bind fun t301 => (some (mx (wrap64 (a0 - t301)) 1, mn (wrap64 (a0 + t301)) 1099511627776, true))))) else (some (0, 0, false)))) = some (r1, r2, r3) := h
 clear h
 replace H := Option.bind_eq_some_iff.mp H
 obtain ⟨t300, A30, H⟩ := H
 replace H : (if t300 = true then (if a0 < 1 then (some (0, 0, false)) else (if a0 > 1099511627776 then (some (0, 0, false)) else ((stopgateref02_far.f a0 a1).bind fun t301 => (some (mx (wrap64 (a0 - t301)) 1, mn (wrap64 (a0 + t301)) 1099511627776, true))))) else (some (0, 0, false))) = some (r1, r2, r3) := H
 have A3 := A0s.mk A30
 clear A30
 by_cases c4 : t300 = true
 ·subst c4
  have H1 : (if a0 < 1 then (some (0, 0, false)) else (if a0 > 1099511627776 then (some (0, 0, false)) else ((stopgateref02_far.f a0 a1).bind fun t301 => (some (mx (wrap64 (a0 - t301)) 1, mn (wrap64 (a0 + t301)) 1099511627776, true))))) = some (r1, r2, r3) := by rw [if_pos rfl] at H; exact H
  clear H
  have H := H1
  clear H1
  by_cases c5 : a0 < 1
  ·rw [if_pos c5] at H
   have c5b0 : decide (a0 < 1) = true := decide_eq_true c5
   clear c5
   simp only [Option.some.injEq, Prod.mk.injEq] at H
   obtain ⟨rfl, rfl, rfl⟩ := H
   go_enter Try.func117, Try.ntmps117
   go_wp2_with (first | ((with_reducible refine gC (f := 75) rfl ?_); refine gL (some 9) rfl rfl Try.func75 (by kernel_rfl) rfl #[.float .f64 a1] rfl (by (try simp only [List.map_toArray, List.map_cons, List.map_nil]); first | done | rfl | (simp only [List.length_drop, List.length_take]; rfl)) ?_; (with_reducible refine (stopgateref02_Right.calls a1 true _ A3.out).mono ?_); rintro e w' ⟨rfl, ⟨nd, rfl⟩⟩; refine ⟨_, rfl, ?_⟩))
   go_ret3
   exact ⟨by first | rfl | (simp [errW_none, errW_some] <;> rfl) | (simp [*, errW_none, errW_some] <;> rfl), by repeat (first | (with_reducible first | exact HB.out | apply bA | apply bN | apply bD) | exact HB.out)⟩
  ·rw [if_neg c5] at H
   have c5b0 : decide (a0 < 1) = false := decide_eq_false c5
   clear c5
   by_cases c6 : a0 > 1099511627776
   ·rw [if_pos c6] at H
    have c6b0 : decide (1099511627776 < a0) = true := decide_eq_true c6
    clear c6
    simp only [Option.some.injEq, Prod.mk.injEq] at H
    obtain ⟨rfl, rfl, rfl⟩ := H
    go_enter Try.func117, Try.ntmps117
    go_wp2_with (first | ((with_reducible refine gC (f := 75) rfl ?_); refine gL (some 9) rfl rfl Try.func75 (by kernel_rfl) rfl #[.float .f64 a1] rfl (by (try simp only [List.map_toArray, List.map_cons, List.map_nil]); first | done | rfl | (simp only [List.length_drop, List.length_take]; rfl)) ?_; (with_reducible refine (stopgateref02_Right.calls a1 true _ A3.out).mono ?_); rintro e w' ⟨rfl, ⟨nd, rfl⟩⟩; refine ⟨_, rfl, ?_⟩))
    go_ret3
    exact ⟨by first | rfl | (simp [errW_none, errW_some] <;> rfl) | (simp [*, errW_none, errW_some] <;> rfl), by repeat (first | (with_reducible first | exact HB.out | apply bA | apply bN | apply bD) | exact HB.out)⟩
   ·rw [if_neg c6] at H
    have c6b0 : decide (1099511627776 < a0) = false := decide_eq_false c6
    clear c6
    replace H := Option.bind_eq_some_iff.mp H
    obtain ⟨t301, A70, H⟩ := H
    replace H : (some (mx (wrap64 (a0 - t301)) 1, mn (wrap64 (a0 + t301)) 1099511627776, true)) = some (r1, r2, r3) := H
    have A7 := A0s.mk A70
    clear A70
    obtain ⟨ji8, hji8⟩ : ∃ j_ : Int, (mx (wrap64 (a0 - t301)) 1) = j_ := ⟨_, rfl⟩
    replace H : (some (ji8, mn (wrap64 (a0 + t301)) 1099511627776, true)) = some (r1, r2, r3) := by first | (rw [hji8] at H; exact H) | (simp only [hji8] at H ⊢; exact H)
    (try rw [hji8] at A3)
    (try rw [hji8] at A7)
    (try (have hji8l : 1 ≤ ji8 := by (rw [← hji8]; unfold mx; (repeat' split) <;> omega)))
    (try (have hji8m : 0 ≤ ji8 := by omega))
    have hji8_ : (if (wrap64 (a0 - t301)) < 1 then 1 else (wrap64 (a0 - t301))) = ji8 := hji8
    obtain ⟨ji9, hji9⟩ : ∃ j_ : Int, (mn (wrap64 (a0 + t301)) 1099511627776) = j_ := ⟨_, rfl⟩
    replace H : (some (ji8, ji9, true)) = some (r1, r2, r3) := by first | (rw [hji9] at H; exact H) | (simp only [hji9] at H ⊢; exact H)
    (try rw [hji9] at A3)
    (try rw [hji9] at A7)
    (try (have hji9h : ji9 ≤ 1099511627776 := by (rw [← hji9]; unfold mn; (repeat' split) <;> omega)))
    (try (have hji9g : ji9 ≤ 64 := by omega))
    have hji9_ : (if 1099511627776 < (wrap64 (a0 + t301)) then 1099511627776 else (wrap64 (a0 + t301))) = ji9 := hji9
    simp only [Option.some.injEq, Prod.mk.injEq] at H
    obtain ⟨rfl, rfl, rfl⟩ := H
    go_enter Try.func117, Try.ntmps117
    go_wp2_with (first | ((with_reducible refine gC (f := 75) rfl ?_); refine gL (some 9) rfl rfl Try.func75 (by kernel_rfl) rfl #[.float .f64 a1] rfl (by (try simp only [List.map_toArray, List.map_cons, List.map_nil]); first | done | rfl | (simp only [List.length_drop, List.length_take]; rfl)) ?_; (with_reducible refine (stopgateref02_Right.calls a1 true _ A3.out).mono ?_); rintro e w' ⟨rfl, ⟨nd, rfl⟩⟩; refine ⟨_, rfl, ?_⟩) | ((with_reducible refine gC (f := 126) rfl ?_); refine gL (some 21) rfl rfl Try.func126 (by kernel_rfl) rfl #[.int .i64 a0, .float .f64 a1] rfl (by (try simp only [List.map_toArray, List.map_cons, List.map_nil]); first | done | rfl | (simp only [List.length_drop, List.length_take]; rfl)) ?_; (with_reducible refine (stopgateref02_far.calls a0 a1 t301 _ A7.out).mono ?_); rintro e w' ⟨rfl, ⟨nd, rfl⟩⟩; refine ⟨_, rfl, ?_⟩))
    go_ret3
    exact ⟨by first | rfl | (simp [errW_none, errW_some] <;> rfl) | (simp only [← hji8, ← hji9]; first | rfl | (simp [errW_none, errW_some] <;> rfl)) | (simp [*, errW_none, errW_some] <;> rfl), by repeat (first | (with_reducible first | exact HB.out | apply bA | apply bN | apply bD) | exact HB.out)⟩
 ·replace c4 := Bool.eq_false_iff.mpr c4
  subst c4
  have H1 : (some (0, 0, false)) = some (r1, r2, r3) := by rw [if_neg (show ¬ (false = true) by decide)] at H; exact H
  clear H
  have H := H1
  clear H1
  simp only [Option.some.injEq, Prod.mk.injEq] at H
  obtain ⟨rfl, rfl, rfl⟩ := H
  go_enter Try.func117, Try.ntmps117
  go_wp2_with (first | ((with_reducible refine gC (f := 75) rfl ?_); refine gL (some 9) rfl rfl Try.func75 (by kernel_rfl) rfl #[.float .f64 a1] rfl (by (try simp only [List.map_toArray, List.map_cons, List.map_nil]); first | done | rfl | (simp only [List.length_drop, List.length_take]; rfl)) ?_; (with_reducible refine (stopgateref02_Right.calls a1 false _ A3.out).mono ?_); rintro e w' ⟨rfl, ⟨nd, rfl⟩⟩; refine ⟨_, rfl, ?_⟩))
  go_ret3
  exact ⟨by first | rfl | (simp [errW_none, errW_some] <;> rfl) | (simp [*, errW_none, errW_some] <;> rfl), by repeat (first | (with_reducible first | exact HB.out | apply bA | apply bN | apply bD) | exact HB.out)⟩

/-! ### stopgateref02_Within: function 96 -/
def stopgateref02_Within.f (a0 : Int) (a1 : Int) (a2 : Nat) : Option (Bool) := (stopgateref02_Collar.f a0 a2).bind fun bt302 => (if bt302.2.2 = true then (if a1 ≥ bt302.1 then (some (decide (a1 ≤ bt302.2.1))) else (some false)) else (some false))
set_option maxHeartbeats 8000000 in
set_option maxRecDepth 100000 in
theorem stopgateref02_Within.calls (a0 : Int) (a1 : Int) (a2 : Nat) (r : Bool) (w : World) (h : stopgateref02_Within.f a0 a1 a2 = some r) :
  Calls Try.prog 96 #[.int .i64 a0, .int .i64 a1, .float .f64 a2] w fun e w' => e = .returned (.bool r) ∧ Below w.heap.size w w' := by
 have HB := A0s.mk (Below.refl w.heap.size w)
 have H : ((stopgateref02_Collar.f a0 a2).bind fun bt302 => (if bt302.2.2 = true then (if a1 ≥ bt302.1 then (some (decide (a1 ≤ bt302.2.1))) else (some false)) else (some false))) = some r := h
 clear h
 replace H := Option.bind_eq_some_iff.mp H
 obtain ⟨⟨t302, t303, t304⟩, A40, H⟩ := H
 replace H : (if t304 = true then (if a1 ≥ t302 then (some (decide (a1 ≤ t303))) else (some false)) else (some false)) = some r := H
 have A4 := A0s.mk A40
 clear A40
 by_cases c5 : t304 = true
 ·subst c5
  have H1 : (if a1 ≥ t302 then (some (decide (a1 ≤ t303))) else (some false)) = some r := by rw [if_pos rfl] at H; exact H
  clear H
  have H := H1
  clear H1
  by_cases c6 : a1 ≥ t302
  ·rw [if_pos c6] at H
   have c6b0 : decide (t302 ≤ a1) = true := decide_eq_true c6
   clear c6
   obtain rfl := Option.some.inj H
   go_enter Try.func96, Try.ntmps96
   go_wp2_with (first | ((with_reducible refine gC (f := 117) rfl ?_); refine gL (some 13) rfl rfl Try.func117 (by kernel_rfl) rfl #[.int .i64 a0, .float .f64 a2] rfl (by (try simp only [List.map_toArray, List.map_cons, List.map_nil]); first | done | rfl | (simp only [List.length_drop, List.length_take]; rfl)) ?_; (with_reducible refine (stopgateref02_Collar.calls a0 a2 t302 t303 true _ A4.out).mono ?_); rintro e w7 ⟨rfl, hb⟩; refine ⟨_, rfl, ?_⟩; have n0_ := A0s.mk (below_step (by repeat (first | (with_reducible first | exact HB.out | apply bA | apply bN | apply bD) | exact HB.out)) hb); clear HB; have HB := n0_; clear n0_; (try clear hb); (try clear hb2); (try clear hk); (try clear hi)))
   go_ret
   exact ⟨by first | rfl | (simp [errW_none, errW_some] <;> rfl) | (simp [*, errW_none, errW_some] <;> rfl), by repeat (first | (with_reducible first | exact HB.out | apply bA | apply bN | apply bD) | exact HB.out)⟩
  ·rw [if_neg c6] at H
   have c6b0 : decide (t302 ≤ a1) = false := decide_eq_false c6
   clear c6
   obtain rfl := Option.some.inj H
   go_enter Try.func96, Try.ntmps96
   go_wp2_with (first | ((with_reducible refine gC (f := 117) rfl ?_); refine gL (some 13) rfl rfl Try.func117 (by kernel_rfl) rfl #[.int .i64 a0, .float .f64 a2] rfl (by (try simp only [List.map_toArray, List.map_cons, List.map_nil]); first | done | rfl | (simp only [List.length_drop, List.length_take]; rfl)) ?_; (with_reducible refine (stopgateref02_Collar.calls a0 a2 t302 t303 true _ A4.out).mono ?_); rintro e w8 ⟨rfl, hb⟩; refine ⟨_, rfl, ?_⟩; have n0_ := A0s.mk (below_step (by repeat (first | (with_reducible first | exact HB.out | apply bA | apply bN | apply bD) | exact HB.out)) hb); clear HB; have HB := n0_; clear n0_; (try clear hb); (try clear hb2); (try clear hk); (try clear hi)))
   go_ret
   exact ⟨by first | rfl | (simp [errW_none, errW_some] <;> rfl) | (simp [*, errW_none, errW_some] <;> rfl), by repeat (first | (with_reducible first | exact HB.out | apply bA | apply bN | apply bD) | exact HB.out)⟩
 ·replace c5 := Bool.eq_false_iff.mpr c5
  subst c5
  have H1 : (some false) = some r := by rw [if_neg (show ¬ (false = true) by decide)] at H; exact H
  clear H
  have H := H1
  clear H1
  obtain rfl := Option.some.inj H
  go_enter Try.func96, Try.ntmps96
  go_wp2_with (first | ((with_reducible refine gC (f := 117) rfl ?_); refine gL (some 13) rfl rfl Try.func117 (by kernel_rfl) rfl #[.int .i64 a0, .float .f64 a2] rfl (by (try simp only [List.map_toArray, List.map_cons, List.map_nil]); first | done | rfl | (simp only [List.length_drop, List.length_take]; rfl)) ?_; (with_reducible refine (stopgateref02_Collar.calls a0 a2 t302 t303 false _ A4.out).mono ?_); rintro e w9 ⟨rfl, hb⟩; refine ⟨_, rfl, ?_⟩; have n0_ := A0s.mk (below_step (by repeat (first | (with_reducible first | exact HB.out | apply bA | apply bN | apply bD) | exact HB.out)) hb); clear HB; have HB := n0_; clear n0_; (try clear hb); (try clear hb2); (try clear hk); (try clear hi)))
  go_ret
  exact ⟨by first | rfl | (simp [errW_none, errW_some] <;> rfl) | (simp [*, errW_none, errW_some] <;> rfl), by repeat (first | (with_reducible first | exact HB.out | apply bA | apply bN | apply bD) | exact HB.out)⟩

end Go.Proofs.Ytgikjgekdeaneaa.QRulesLooks
