/- Printed by wip/gen/myprint.py, a program of this session, for this claim: functions of the program as Lean functions, each with a proof that the Go code comes to its answers. -/
import Derived.Test.YtgikjgekdeaneaaQRulesPricesx0
import Derived.Test.YtgikjgekdeaneaaQRulesPricesx2
import Derived.Test.YtgikjgekdeaneaaQRulesPricesx4
import Derived.Test.YtgikjgekdeaneaaQRulesPricesx7
import Derived.Test.YtgikjgekdeaneaaQRulesPricesx8
namespace Go.Proofs.Ytgikjgekdeaneaa.QRulesPrices
open Go.RowKit Go.Proofs.YtgikjgekdeaneaaW.PrintWords Go.Proofs.YtgikjgekdeaneaaW.PrintLast Go.Proofs.YtgikjgekdeaneaaW.PrintMore
attribute [local go_sem] max2_int min2_int max_two min_two max_three min_three max_four min_four   -- for this text's walks alone
set_option linter.unusedVariables false
set_option linter.unusedSimpArgs false

attribute [local go_sem] run_store_flt
/-! ### stopgatelaw05_RulesPrices: function 14 -/
def stopgatelaw05_RulesPrices.j0 : Nat → Int → Int → Int → Int → Int → Bool → Option (Bool)
 | 0, _, _, _, _, _, _ => none
 | k + 1, x2, x9, x10, x11, x12, x47 => if x47 = true then (none) else (if x2 < 1 then (if x9 = 1 then (some (x10 == 0)) else (none)) else (if x2 ≥ x11 then (if ((x9 == 0) == (decide (x2 ≤ x12))) = true then (if x9 = 0 then (if x10 = x2 then (some true) else (none)) else (if x9 = 8 then (some (x10 == 0)) else (none))) else (none)) else (if ((x9 == 0) == false) = true then (if x9 = 0 then (if x10 = x2 then (some true) else (none)) else (if x9 = 8 then (some (x10 == 0)) else (none))) else (none))))
def stopgatelaw05_RulesPrices.f (k : Nat) (a0 : Int) (a1 : Int) (a2 : Int) : Option (Bool) := (stopgateref05_Fix.f k 0 0 0 0 ([] : List (S176)) ([] : List Int) (([(⟨a0, 0, (-1), a1.toNat⟩ : S86)] : List (S86)))).bind fun bt270 => (if 0 < (bt270.2.2.2.2.2.2.length : Int) then ((stopgatelaw05_To.f k bt270.1 bt270.2.1 bt270.2.2.1 bt270.2.2.2.1 bt270.2.2.2.2.1 bt270.2.2.2.2.2.1 bt270.2.2.2.2.2.2).bind fun bt286 => ((rules_Look.f k bt286.1 bt286.2.1 bt286.2.2.1 bt286.2.2.2.1 bt286.2.2.2.2.1 bt286.2.2.2.2.2.1 bt286.2.2.2.2.2.2 0 0 false a2 1 0 0).bind fun bt299 => ((band_Collar.f ((rd_T86 bt270.2.2.2.2.2.2 0).f0) ((rd_T86 bt270.2.2.2.2.2.2 0).f3)).bind fun bt301 => ((stopgatelaw05_told.f k).bind fun t304 => (if t304 = true then (stopgatelaw05_RulesPrices.j0 k a2 bt299.1 bt299.2 bt301.1 bt301.2.1 (!bt301.2.2)) else (none)))))) else (none))
theorem stopgatelaw05_RulesPrices.mono_l : ∀ k, (∀ y0 y1 y2 y3 y4 y5, LeO (stopgatelaw05_RulesPrices.j0 k y0 y1 y2 y3 y4 y5) (stopgatelaw05_RulesPrices.j0 (k + 1) y0 y1 y2 y3 y4 y5))
 | 0 => fun _ _ _ _ _ _ r h => by simp [stopgatelaw05_RulesPrices.j0] at h
 | k + 1 => by
  have ih0 := stopgatelaw05_RulesPrices.mono_l k
  ·intro y0 y1 y2 y3 y4 y5
   unfold stopgatelaw05_RulesPrices.j0
   repeat' first
   | (with_reducible exact ih0 _ _ _ _ _ _)
   | (with_reducible exact rules_Look.mono _ _ _ _ _ _ _ _ _ _ _ _ _ _ _)
   | (with_reducible exact stopgatelaw05_To.mono _ _ _ _ _ _ _ _)
   | (with_reducible exact stopgatelaw05_told.mono _)
   | (with_reducible exact stopgateref05_Fix.mono _ _ _ _ _ _ _ _)
   | (with_reducible exact LeO.refl _)
   | (with_reducible exact LeO.none _)
   | (with_reducible refine LeO.ite ?_ ?_)
   | (with_reducible refine LeO.bind ?_ (fun _ => ?_))
   | exact ih0 _ _ _ _ _ _
   | exact rules_Look.mono _ _ _ _ _ _ _ _ _ _ _ _ _ _ _
   | exact stopgatelaw05_To.mono _ _ _ _ _ _ _ _
   | exact stopgatelaw05_told.mono _
   | exact stopgateref05_Fix.mono _ _ _ _ _ _ _ _
   | exact LeO.none _
   | refine LeO.ite ?_ ?_
   | refine LeO.bind ?_ (fun _ => ?_)
theorem stopgatelaw05_RulesPrices.mono : ∀ a0 a1 a2 k, LeO (stopgatelaw05_RulesPrices.f k a0 a1 a2) (stopgatelaw05_RulesPrices.f (k + 1) a0 a1 a2) := by
 intro a0 a1 a2 k
 have ih0 := stopgatelaw05_RulesPrices.mono_l k
 unfold stopgatelaw05_RulesPrices.f
 repeat' first
   | (with_reducible exact ih0 _ _ _ _ _ _)
   | (with_reducible exact rules_Look.mono _ _ _ _ _ _ _ _ _ _ _ _ _ _ _)
   | (with_reducible exact stopgatelaw05_To.mono _ _ _ _ _ _ _ _)
   | (with_reducible exact stopgatelaw05_told.mono _)
   | (with_reducible exact stopgateref05_Fix.mono _ _ _ _ _ _ _ _)
   | (with_reducible exact LeO.refl _)
   | (with_reducible exact LeO.none _)
   | (with_reducible refine LeO.ite ?_ ?_)
   | (with_reducible refine LeO.bind ?_ (fun _ => ?_))
   | exact ih0 _ _ _ _ _ _
   | exact rules_Look.mono _ _ _ _ _ _ _ _ _ _ _ _ _ _ _
   | exact stopgatelaw05_To.mono _ _ _ _ _ _ _ _
   | exact stopgatelaw05_told.mono _
   | exact stopgateref05_Fix.mono _ _ _ _ _ _ _ _
   | exact LeO.none _
   | refine LeO.ite ?_ ?_
   | refine LeO.bind ?_ (fun _ => ?_)
set_option maxHeartbeats 8000000 in
set_option maxRecDepth 100000 in
theorem stopgatelaw05_RulesPrices.calls (k : Nat) (a0 : Int) (a1 : Int) (a2 : Int) (r : Bool) (w : World) (h : stopgatelaw05_RulesPrices.f k a0 a1 a2 = some r) :
  Calls Try.prog 14 #[.int .i64 a0, .int .u64 a1, .int .i64 a2] w fun e w' => e = .returned (.bool r) ∧ Below w.heap.size w w' := by
 have hx57 : ∀ (n_ : Int) (w_ : World), (callFunc 57 #[.int .u64 n_]).run Try.prog w_ = .ok (.value (.float .f64 n_.toNat)) w_ := fun n_ w_ => (run_callFunc_extern (e := Extern.MathFloatBits.float64frombits) Try.func57 (by kernel_rfl) (by kernel_rfl) (by kernel_rfl) (by kernel_rfl) _ w_).trans rfl
 have hu86 := Try.underlying86
 have hu81 := Try.underlying81
 have hu28 := Try.underlying28
 have HB := Aside0.mk (Below.refl w.heap.size w)
 have H : ((stopgateref05_Fix.f k 0 0 0 0 ([] : List (S176)) ([] : List Int) (([(⟨a0, 0, (-1), a1.toNat⟩ : S86)] : List (S86)))).bind fun bt270 => (if 0 < (bt270.2.2.2.2.2.2.length : Int) then ((stopgatelaw05_To.f k bt270.1 bt270.2.1 bt270.2.2.1 bt270.2.2.2.1 bt270.2.2.2.2.1 bt270.2.2.2.2.2.1 bt270.2.2.2.2.2.2).bind fun bt286 => ((rules_Look.f k bt286.1 bt286.2.1 bt286.2.2.1 bt286.2.2.2.1 bt286.2.2.2.2.1 bt286.2.2.2.2.2.1 bt286.2.2.2.2.2.2 0 0 false a2 1 0 0).bind fun bt299 => ((band_Collar.f ((rd_T86 bt270.2.2.2.2.2.2 0).f0) ((rd_T86 bt270.2.2.2.2.2.2 0).f3)).bind fun bt301 => ((stopgatelaw05_told.f k).bind fun t304 => (if t304 = true then (stopgatelaw05_RulesPrices.j0 k a2 bt299.1 bt299.2 bt301.1 bt301.2.1 (!bt301.2.2)) else (none)))))) else (none))) = some r := h
 clear h
 obtain ⟨y267, hy267⟩ : ∃ y_ : List (S86), y_ = (([(⟨a0, 0, (-1), a1.toNat⟩ : S86)] : List (S86))) := ⟨_, rfl⟩
 replace H : ((stopgateref05_Fix.f k 0 0 0 0 ([] : List (S176)) ([] : List Int) y267).bind fun bt270 => (if 0 < (bt270.2.2.2.2.2.2.length : Int) then ((stopgatelaw05_To.f k bt270.1 bt270.2.1 bt270.2.2.1 bt270.2.2.2.1 bt270.2.2.2.2.1 bt270.2.2.2.2.2.1 bt270.2.2.2.2.2.2).bind fun bt286 => ((rules_Look.f k bt286.1 bt286.2.1 bt286.2.2.1 bt286.2.2.2.1 bt286.2.2.2.2.1 bt286.2.2.2.2.2.1 bt286.2.2.2.2.2.2 0 0 false a2 1 0 0).bind fun bt299 => ((band_Collar.f ((rd_T86 bt270.2.2.2.2.2.2 0).f0) ((rd_T86 bt270.2.2.2.2.2.2 0).f3)).bind fun bt301 => ((stopgatelaw05_told.f k).bind fun t304 => (if t304 = true then (stopgatelaw05_RulesPrices.j0 k a2 bt299.1 bt299.2 bt301.1 bt301.2.1 (!bt301.2.2)) else (none)))))) else (none))) = some r := by first | (rw [hy267]; with_reducible exact H) | (have H2_ := (Option.bind_some _ _).symm.trans H; rw [hy267]; with_reducible exact H2_) | (have H2_ := (Option.bind_some _ _).symm.trans H; with_reducible exact H2_) | with_reducible exact H | (rw [hy267]; exact H) | exact H
 have Ny267 := Aside0.mk hy267
 clear hy267
 replace H := Option.bind_eq_some_iff.mp H
 obtain ⟨⟨t270, t271, t272, t273, t274, t277, t280⟩, A40, H⟩ := H
 replace H : (if 0 < (t280.length : Int) then ((stopgatelaw05_To.f k t270 t271 t272 t273 t274 t277 t280).bind fun bt286 => ((rules_Look.f k bt286.1 bt286.2.1 bt286.2.2.1 bt286.2.2.2.1 bt286.2.2.2.2.1 bt286.2.2.2.2.2.1 bt286.2.2.2.2.2.2 0 0 false a2 1 0 0).bind fun bt299 => ((band_Collar.f ((rd_T86 t280 0).f0) ((rd_T86 t280 0).f3)).bind fun bt301 => ((stopgatelaw05_told.f k).bind fun t304 => (if t304 = true then (stopgatelaw05_RulesPrices.j0 k a2 bt299.1 bt299.2 bt301.1 bt301.2.1 (!bt301.2.2)) else (none)))))) else (none)) = some r := H
 have A4 := Aside0.mk A40
 clear A40
 by_cases c5 : 0 < (t280.length : Int)
 ·rw [if_pos c5] at H
  have c5b0 : decide (0 < (t280.length : Int)) = true := decide_eq_true c5
  have c5b1 : decide (0 < t280.length) = true := decide_eq_true (by omega)
  clear c5
  replace H := Option.bind_eq_some_iff.mp H
  obtain ⟨⟨t286, t287, t288, t289, t290, t293, t296⟩, A60, H⟩ := H
  replace H : ((rules_Look.f k t286 t287 t288 t289 t290 t293 t296 0 0 false a2 1 0 0).bind fun bt299 => ((band_Collar.f ((rd_T86 t280 0).f0) ((rd_T86 t280 0).f3)).bind fun bt301 => ((stopgatelaw05_told.f k).bind fun t304 => (if t304 = true then (stopgatelaw05_RulesPrices.j0 k a2 bt299.1 bt299.2 bt301.1 bt301.2.1 (!bt301.2.2)) else (none))))) = some r := H
  have A6 := Aside0.mk A60
  clear A60
  replace H := Option.bind_eq_some_iff.mp H
  obtain ⟨⟨t299, t300⟩, A70, H⟩ := H
  replace H : ((band_Collar.f ((rd_T86 t280 0).f0) ((rd_T86 t280 0).f3)).bind fun bt301 => ((stopgatelaw05_told.f k).bind fun t304 => (if t304 = true then (stopgatelaw05_RulesPrices.j0 k a2 t299 t300 bt301.1 bt301.2.1 (!bt301.2.2)) else (none)))) = some r := H
  have A7 := Aside0.mk A70
  clear A70
  replace H := Option.bind_eq_some_iff.mp H
  obtain ⟨⟨t301, t302, t303⟩, A80, H⟩ := H
  replace H : ((stopgatelaw05_told.f k).bind fun t304 => (if t304 = true then (stopgatelaw05_RulesPrices.j0 k a2 t299 t300 t301 t302 (!t303)) else (none))) = some r := H
  have A8 := Aside0.mk A80
  clear A80
  have HC9 := Aside0.mk H
  clear H
  go_enter Try.func14, Try.ntmps14
  go_upto_region 5 with (first | ((with_reducible refine gate_dst (N := 18) rfl ?_); refine Kd.R_lit k86 _ 86 ?hg (N := 18) ?hd (xs := ([(⟨a0, 0, (-1), a1.toNat⟩ : S86)] : List (S86))) (inner := [.int .i64 a0, .int .i64 0, .int .i64 (-1), .float .f64 a1.toNat]) (ok := fun _ => True) (okp := fun _ => True) ?hr ?hp (fun _ hk => hk) trivial (Below.refl _ _) (Nat.le_refl _) (by simp) ?_; (case hd => rfl); (case hg => rfl); (case hr => first | (go_simp; done) | (go_simp; rfl)); (case hp => exact (Reps.c4 (show Kd.M k86 _ _ _ (⟨a0, 0, (-1), a1.toNat⟩ : S86) [.int .i64 a0, .int .i64 0, .int .i64 (-1), .float .f64 a1.toNat] from (k86_mkM _ _ _ (⟨a0, 0, (-1), a1.toNat⟩ : S86) )) (Reps.none _ _))); intro v268 w10 ho11 hb hg_ hnew_; clear hg_ hnew_; (first | rw [← Ny267.out] at ho11 | (simp only [Int.reduceToNat] at ho11; rw [← Ny267.out] at ho11)); have n0_ := Aside0.mk (Kd.R_lower ho11 (below_size (by repeat (first | (with_reducible first | exact HB.out | apply below_alloc | apply pw_below_drewN | apply below_drew1) | exact HB.out)))); have n1_ := Aside0.mk (below_step (by repeat (first | (with_reducible first | exact HB.out | apply below_alloc | apply pw_below_drewN | apply below_drew1) | exact HB.out)) hb); clear HB; have HO269 := n0_; have HB := n1_; clear n0_ n1_; clear hb ho11; obtain ⟨Ao12, co12, eo12⟩ := Kd.R_slice HO269.out; subst eo12) | ((with_reducible refine gate_callee (f := 40) rfl ?_); refine goesL_ (some 20) rfl rfl Try.func40 (by kernel_rfl) rfl #[.agg #[.int .i64 0, .int .i64 0, .int .i64 0, .int .i64 0, .slice none 0 0, .slice none 0 0, .slice Ao12 y267.length co12]] rfl (by (try simp only [List.map_toArray, List.map_cons, List.map_nil]); first | done | rfl | (simp only [List.length_drop, List.length_take]; rfl)) ?_; (refine (stopgateref05_Fix.calls k 0 0 0 0 _ _ ([] : List (S176)) _ _ ([] : List Int) _ _ y267 t270 t271 t272 t273 t274 t277 t280 _ ?side1 ?side2 ?side3 ?side4 ?side5 ?side6 A4.out).mono ?_); (case side1 => exact Kd.C_nil _ _); (case side2 => exact Nat.le_refl _); (case side3 => exact Kd.C_nil _ _); (case side4 => exact Nat.le_refl _); (case side5 => repeat (first | exact (Kd.R_reads' HO269.out).2.2 | (with_reducible refine Kd.C_alloc ?_ _) | (with_reducible refine Kd.C_drewN ?_ _) | (with_reducible refine Kd.C_drew ?_))); (case side6 => exact (Kd.R_reads' HO269.out).2.1); rintro e w13 ⟨v275, v278, v281, rfl, ho0, ho1, ho2, hb⟩; refine ⟨_, rfl, ?_⟩; have n0_ := Aside0.mk (Kd.R_elder' (by (with_reducible repeat (first | apply Kd.R_alloc | apply Kd.R_drewN | apply Kd.R_drew)); exact HO269.out) (Kd.R_base ho2) hb); have n1_ := Aside0.mk (Kd.R_lower ho0 (below_size (by repeat (first | (with_reducible first | exact HB.out | apply below_alloc | apply pw_below_drewN | apply below_drew1) | exact HB.out)))); have n2_ := Aside0.mk (Kd.R_lower ho1 (below_size (by repeat (first | (with_reducible first | exact HB.out | apply below_alloc | apply pw_below_drewN | apply below_drew1) | exact HB.out)))); have n3_ := Aside0.mk (Kd.R_lower (Kd.R_new' ho2 (Kd.R_lt (by (with_reducible repeat (first | apply Kd.R_alloc | apply Kd.R_drewN | apply Kd.R_drew)); exact HO269.out))) (below_size (by repeat (first | (with_reducible first | exact HB.out | apply below_alloc | apply pw_below_drewN | apply below_drew1) | exact HB.out)))); have n4_ := Aside0.mk (below_step (by repeat (first | (with_reducible first | exact HB.out | apply below_alloc | apply pw_below_drewN | apply below_drew1) | exact HB.out)) hb); clear HO269; clear HB; have HO269 := n0_; have HO276 := n1_; have HO279 := n2_; have HO282 := n3_; have HB := n4_; clear n0_ n1_ n2_ n3_ n4_; (try clear hb); (try clear hb2); (try clear hk); (try clear hi); (try clear ho0); (try clear ho1); (try clear ho2)) | ((with_reducible refine gate_dst (N := 7) rfl ?_); refine box_event ?hg (N := 7) ?hd (cs := #[.int .i64 0, .int .i64 0, .int .i64 0, .int .i64 0, .slice none 0 0, .slice none 0 0, .slice none 0 0]) (t := 81) ?hr ?_; (case hd => rfl); (case hg => rfl); (case hr => first | (go_simp; done) | (go_simp; rfl)); intro gb283 hg w14 hbox hb; have n0_ := Aside0.mk (Kd.R_below (by (with_reducible repeat (first | apply Kd.R_alloc | apply Kd.R_drewN | apply Kd.R_drew)); exact HO269.out) hb); have n1_ := Aside0.mk (Kd.R_below (by (with_reducible repeat (first | apply Kd.R_alloc | apply Kd.R_drewN | apply Kd.R_drew)); exact HO276.out) hb); have n2_ := Aside0.mk (Kd.R_below (by (with_reducible repeat (first | apply Kd.R_alloc | apply Kd.R_drewN | apply Kd.R_drew)); exact HO279.out) hb); have n3_ := Aside0.mk (Kd.R_below (by (with_reducible repeat (first | apply Kd.R_alloc | apply Kd.R_drewN | apply Kd.R_drew)); exact HO282.out) hb); have n4_ := Aside0.mk (below_step (by repeat (first | (with_reducible first | exact HB.out | apply below_alloc | apply pw_below_drewN | apply below_drew1) | exact HB.out)) hb); have n5_ := Aside0.mk (hbox); have n6_ := Aside0.mk ((by rw [hg]; exact (below_size (by repeat (first | (with_reducible first | exact HB.out | apply below_alloc | apply pw_below_drewN | apply below_drew1) | exact HB.out))) : w.heap.size ≤ gb283)); have n7_ := Aside0.mk ((by rw [hg]; exact (below_size (by repeat (first | (with_reducible first | exact HB.out | apply below_alloc | apply pw_below_drewN | apply below_drew1) | exact HB.out))) : w.heap.size ≤ gb283)); clear HO269; clear HO276; clear HO279; clear HO282; clear HB; have HO269 := n0_; have HO276 := n1_; have HO279 := n2_; have HO282 := n3_; have HB := n4_; have BK283 := n5_; have GW283 := n6_; have GE283 := n7_; clear n0_ n1_ n2_ n3_ n4_ n5_ n6_ n7_; clear hb hbox hg; obtain ⟨hcz15_0, hcz15_1, hcz15_2, hcz15_3, hcz15_4, hcz15_5, hcz15_6, hfz15_0, hfz15_1, hfz15_2, hfz15_3, hfz15_4, hfz15_5, hfz15_6⟩ := blk_all7 BK283.out; obtain ⟨Ao16, co16, eo16⟩ := Kd.R_slice HO276.out; subst eo16; obtain ⟨Ao17, co17, eo17⟩ := Kd.R_slice HO279.out; subst eo17; obtain ⟨Ao18, co18, eo18⟩ := Kd.R_slice HO282.out; subst eo18; have p284 : 0 ≤ (0 : Int) := (by omega); have q284 : 0 < (t280.length : Int) := of_decide_eq_true (by first | (with_reducible assumption) | assumption); obtain ⟨ad284, e284, hx284_0, hx284_1, hx284_2, hx284_3⟩ := at_T86 (Kd.R_reads' HO282.out).2.2 0 p284 q284; cases e284; have qi284 : (0 < t280.length) = True := eq_true (by omega); (try rw [show ((0 : Int)).toNat = 0 from rfl] at hx284_0); (try rw [show 0 * 4 = 0 from rfl] at hx284_0); (try rw [Addr.add_zero'] at hx284_0); (try rw [show ((0 : Int)).toNat = 0 from rfl] at hx284_1); (try rw [show 0 * 4 = 0 from rfl] at hx284_1); (try rw [Addr.add_zero'] at hx284_1); (try rw [show ((0 : Int)).toNat = 0 from rfl] at hx284_2); (try rw [show 0 * 4 = 0 from rfl] at hx284_2); (try rw [Addr.add_zero'] at hx284_2); (try rw [show ((0 : Int)).toNat = 0 from rfl] at hx284_3); (try rw [show 0 * 4 = 0 from rfl] at hx284_3); (try rw [Addr.add_zero'] at hx284_3); have hn284_0 : ad284.block ≠ gb283 := Kd.own_blk (Kd.R_ne HO282.out BK283.out (by decide)); have hn284_1 : ad284.block ≠ gb283 := Kd.own_blk (Kd.R_ne HO282.out BK283.out (by decide)); have hn284_2 : ad284.block ≠ gb283 := Kd.own_blk (Kd.R_ne HO282.out BK283.out (by decide)); have hn284_3 : ad284.block ≠ gb283 := Kd.own_blk (Kd.R_ne HO282.out BK283.out (by decide)); have hn284_4 : ad284.block ≠ gb283 := Kd.own_blk (Kd.R_ne HO282.out BK283.out (by decide)); have hn284_5 : ad284.block ≠ gb283 := Kd.own_blk (Kd.R_ne HO282.out BK283.out (by decide)); have hn284_6 : ad284.block ≠ gb283 := Kd.own_blk (Kd.R_ne HO282.out BK283.out (by decide)); replace hx284_0 := (cell_far (p := ⟨gb283, 0, none⟩) (by first | (rw [add_block]; exact hn284_0) | (show (Addr.add _ _).block ≠ _; rw [add_block]; exact hn284_0) | exact hn284_0) (.int .i64 t270)).trans hx284_0; replace hx284_1 := (cell_far (p := ⟨gb283, 0, none⟩) (by first | (rw [add_block]; exact hn284_0) | (show (Addr.add _ _).block ≠ _; rw [add_block]; exact hn284_0) | exact hn284_0) (.int .i64 t270)).trans hx284_1; replace hx284_2 := (cell_far (p := ⟨gb283, 0, none⟩) (by first | (rw [add_block]; exact hn284_0) | (show (Addr.add _ _).block ≠ _; rw [add_block]; exact hn284_0) | exact hn284_0) (.int .i64 t270)).trans hx284_2; replace hx284_3 := (cell_far (p := ⟨gb283, 0, none⟩) (by first | (rw [add_block]; exact hn284_0) | (show (Addr.add _ _).block ≠ _; rw [add_block]; exact hn284_0) | exact hn284_0) (.int .i64 t270)).trans hx284_3; replace hx284_0 := (cell_far (p := ⟨gb283, 1, none⟩) (by first | (rw [add_block]; exact hn284_1) | (show (Addr.add _ _).block ≠ _; rw [add_block]; exact hn284_1) | exact hn284_1) (.int .i64 t271)).trans hx284_0; replace hx284_1 := (cell_far (p := ⟨gb283, 1, none⟩) (by first | (rw [add_block]; exact hn284_1) | (show (Addr.add _ _).block ≠ _; rw [add_block]; exact hn284_1) | exact hn284_1) (.int .i64 t271)).trans hx284_1; replace hx284_2 := (cell_far (p := ⟨gb283, 1, none⟩) (by first | (rw [add_block]; exact hn284_1) | (show (Addr.add _ _).block ≠ _; rw [add_block]; exact hn284_1) | exact hn284_1) (.int .i64 t271)).trans hx284_2; replace hx284_3 := (cell_far (p := ⟨gb283, 1, none⟩) (by first | (rw [add_block]; exact hn284_1) | (show (Addr.add _ _).block ≠ _; rw [add_block]; exact hn284_1) | exact hn284_1) (.int .i64 t271)).trans hx284_3; replace hx284_0 := (cell_far (p := ⟨gb283, 2, none⟩) (by first | (rw [add_block]; exact hn284_2) | (show (Addr.add _ _).block ≠ _; rw [add_block]; exact hn284_2) | exact hn284_2) (.int .i64 t272)).trans hx284_0; replace hx284_1 := (cell_far (p := ⟨gb283, 2, none⟩) (by first | (rw [add_block]; exact hn284_2) | (show (Addr.add _ _).block ≠ _; rw [add_block]; exact hn284_2) | exact hn284_2) (.int .i64 t272)).trans hx284_1; replace hx284_2 := (cell_far (p := ⟨gb283, 2, none⟩) (by first | (rw [add_block]; exact hn284_2) | (show (Addr.add _ _).block ≠ _; rw [add_block]; exact hn284_2) | exact hn284_2) (.int .i64 t272)).trans hx284_2; replace hx284_3 := (cell_far (p := ⟨gb283, 2, none⟩) (by first | (rw [add_block]; exact hn284_2) | (show (Addr.add _ _).block ≠ _; rw [add_block]; exact hn284_2) | exact hn284_2) (.int .i64 t272)).trans hx284_3; replace hx284_0 := (cell_far (p := ⟨gb283, 3, none⟩) (by first | (rw [add_block]; exact hn284_3) | (show (Addr.add _ _).block ≠ _; rw [add_block]; exact hn284_3) | exact hn284_3) (.int .i64 t273)).trans hx284_0; replace hx284_1 := (cell_far (p := ⟨gb283, 3, none⟩) (by first | (rw [add_block]; exact hn284_3) | (show (Addr.add _ _).block ≠ _; rw [add_block]; exact hn284_3) | exact hn284_3) (.int .i64 t273)).trans hx284_1; replace hx284_2 := (cell_far (p := ⟨gb283, 3, none⟩) (by first | (rw [add_block]; exact hn284_3) | (show (Addr.add _ _).block ≠ _; rw [add_block]; exact hn284_3) | exact hn284_3) (.int .i64 t273)).trans hx284_2; replace hx284_3 := (cell_far (p := ⟨gb283, 3, none⟩) (by first | (rw [add_block]; exact hn284_3) | (show (Addr.add _ _).block ≠ _; rw [add_block]; exact hn284_3) | exact hn284_3) (.int .i64 t273)).trans hx284_3; replace hx284_0 := (cell_far (p := ⟨gb283, 4, none⟩) (by first | (rw [add_block]; exact hn284_4) | (show (Addr.add _ _).block ≠ _; rw [add_block]; exact hn284_4) | exact hn284_4) (.slice Ao16 t274.length co16)).trans hx284_0; replace hx284_1 := (cell_far (p := ⟨gb283, 4, none⟩) (by first | (rw [add_block]; exact hn284_4) | (show (Addr.add _ _).block ≠ _; rw [add_block]; exact hn284_4) | exact hn284_4) (.slice Ao16 t274.length co16)).trans hx284_1; replace hx284_2 := (cell_far (p := ⟨gb283, 4, none⟩) (by first | (rw [add_block]; exact hn284_4) | (show (Addr.add _ _).block ≠ _; rw [add_block]; exact hn284_4) | exact hn284_4) (.slice Ao16 t274.length co16)).trans hx284_2; replace hx284_3 := (cell_far (p := ⟨gb283, 4, none⟩) (by first | (rw [add_block]; exact hn284_4) | (show (Addr.add _ _).block ≠ _; rw [add_block]; exact hn284_4) | exact hn284_4) (.slice Ao16 t274.length co16)).trans hx284_3; replace hx284_0 := (cell_far (p := ⟨gb283, 5, none⟩) (by first | (rw [add_block]; exact hn284_5) | (show (Addr.add _ _).block ≠ _; rw [add_block]; exact hn284_5) | exact hn284_5) (.slice Ao17 t277.length co17)).trans hx284_0; replace hx284_1 := (cell_far (p := ⟨gb283, 5, none⟩) (by first | (rw [add_block]; exact hn284_5) | (show (Addr.add _ _).block ≠ _; rw [add_block]; exact hn284_5) | exact hn284_5) (.slice Ao17 t277.length co17)).trans hx284_1; replace hx284_2 := (cell_far (p := ⟨gb283, 5, none⟩) (by first | (rw [add_block]; exact hn284_5) | (show (Addr.add _ _).block ≠ _; rw [add_block]; exact hn284_5) | exact hn284_5) (.slice Ao17 t277.length co17)).trans hx284_2; replace hx284_3 := (cell_far (p := ⟨gb283, 5, none⟩) (by first | (rw [add_block]; exact hn284_5) | (show (Addr.add _ _).block ≠ _; rw [add_block]; exact hn284_5) | exact hn284_5) (.slice Ao17 t277.length co17)).trans hx284_3; replace hx284_0 := (cell_far (p := ⟨gb283, 6, none⟩) (by first | (rw [add_block]; exact hn284_6) | (show (Addr.add _ _).block ≠ _; rw [add_block]; exact hn284_6) | exact hn284_6) (.slice (some ad284) t280.length co18)).trans hx284_0; replace hx284_1 := (cell_far (p := ⟨gb283, 6, none⟩) (by first | (rw [add_block]; exact hn284_6) | (show (Addr.add _ _).block ≠ _; rw [add_block]; exact hn284_6) | exact hn284_6) (.slice (some ad284) t280.length co18)).trans hx284_1; replace hx284_2 := (cell_far (p := ⟨gb283, 6, none⟩) (by first | (rw [add_block]; exact hn284_6) | (show (Addr.add _ _).block ≠ _; rw [add_block]; exact hn284_6) | exact hn284_6) (.slice (some ad284) t280.length co18)).trans hx284_2; replace hx284_3 := (cell_far (p := ⟨gb283, 6, none⟩) (by first | (rw [add_block]; exact hn284_6) | (show (Addr.add _ _).block ≠ _; rw [add_block]; exact hn284_6) | exact hn284_6) (.slice (some ad284) t280.length co18)).trans hx284_3; clear hn284_0; clear hn284_1; clear hn284_2; clear hn284_3; clear hn284_4; clear hn284_5; clear hn284_6; replace p284 := eq_true p284; replace q284 := eq_true q284) | ((with_reducible refine gate_dst (N := 8) rfl ?_); refine box_event ?hg (N := 8) ?hd (cs := #[.int .i64 0, .int .i64 0, .int .i64 0, .float .f64 0]) (t := 86) ?hr ?_; (case hd => rfl); (case hg => rfl); (case hr => first | (go_simp; done) | (go_simp; rfl)); intro gb285 hg w19 hbox hb; have n0_ := Aside0.mk (Kd.R_below (Kd.R_elderB (by (with_reducible repeat (first | apply Kd.R_alloc | apply Kd.R_drewN | apply Kd.R_drew)); exact (Kd.R_mono (Kd.R_far (p := ⟨gb283, 6, none⟩) (Kd.R_far (p := ⟨gb283, 5, none⟩) (Kd.R_far (p := ⟨gb283, 4, none⟩) (Kd.R_far (p := ⟨gb283, 3, none⟩) (Kd.R_far (p := ⟨gb283, 2, none⟩) (Kd.R_far (p := ⟨gb283, 1, none⟩) (Kd.R_far (p := ⟨gb283, 0, none⟩) (Kd.R_types HO269.out BK283.out (by decide)) (fun _ hk => hk.2) (.int .i64 t270)) (fun _ hk => hk.2) (.int .i64 t271)) (fun _ hk => hk.2) (.int .i64 t272)) (fun _ hk => hk.2) (.int .i64 t273)) (fun _ hk => hk.2) (.slice Ao16 t274.length co16)) (fun _ hk => hk.2) (.slice Ao17 t277.length co17)) (fun _ hk => hk.2) (.slice (some ad284) t280.length co18)) (fun _ h_ => h_.1))) gb285 (Nat.le_of_eq hg.symm)) hb); have n1_ := Aside0.mk (Kd.R_below (by (with_reducible repeat (first | apply Kd.R_alloc | apply Kd.R_drewN | apply Kd.R_drew)); exact (Kd.R_mono (Kd.R_far (p := ⟨gb283, 6, none⟩) (Kd.R_far (p := ⟨gb283, 5, none⟩) (Kd.R_far (p := ⟨gb283, 4, none⟩) (Kd.R_far (p := ⟨gb283, 3, none⟩) (Kd.R_far (p := ⟨gb283, 2, none⟩) (Kd.R_far (p := ⟨gb283, 1, none⟩) (Kd.R_far (p := ⟨gb283, 0, none⟩) (Kd.R_types HO276.out BK283.out (by decide)) (fun _ hk => hk.2) (.int .i64 t270)) (fun _ hk => hk.2) (.int .i64 t271)) (fun _ hk => hk.2) (.int .i64 t272)) (fun _ hk => hk.2) (.int .i64 t273)) (fun _ hk => hk.2) (.slice Ao16 t274.length co16)) (fun _ hk => hk.2) (.slice Ao17 t277.length co17)) (fun _ hk => hk.2) (.slice (some ad284) t280.length co18)) (fun _ h_ => h_.1))) hb); have n2_ := Aside0.mk (Kd.R_below (by (with_reducible repeat (first | apply Kd.R_alloc | apply Kd.R_drewN | apply Kd.R_drew)); exact (Kd.R_mono (Kd.R_far (p := ⟨gb283, 6, none⟩) (Kd.R_far (p := ⟨gb283, 5, none⟩) (Kd.R_far (p := ⟨gb283, 4, none⟩) (Kd.R_far (p := ⟨gb283, 3, none⟩) (Kd.R_far (p := ⟨gb283, 2, none⟩) (Kd.R_far (p := ⟨gb283, 1, none⟩) (Kd.R_far (p := ⟨gb283, 0, none⟩) (Kd.R_types HO279.out BK283.out (by decide)) (fun _ hk => hk.2) (.int .i64 t270)) (fun _ hk => hk.2) (.int .i64 t271)) (fun _ hk => hk.2) (.int .i64 t272)) (fun _ hk => hk.2) (.int .i64 t273)) (fun _ hk => hk.2) (.slice Ao16 t274.length co16)) (fun _ hk => hk.2) (.slice Ao17 t277.length co17)) (fun _ hk => hk.2) (.slice (some ad284) t280.length co18)) (fun _ h_ => h_.1))) hb); have n3_ := Aside0.mk (Kd.R_below (Kd.R_elderB (by (with_reducible repeat (first | apply Kd.R_alloc | apply Kd.R_drewN | apply Kd.R_drew)); exact (Kd.R_mono (Kd.R_far (p := ⟨gb283, 6, none⟩) (Kd.R_far (p := ⟨gb283, 5, none⟩) (Kd.R_far (p := ⟨gb283, 4, none⟩) (Kd.R_far (p := ⟨gb283, 3, none⟩) (Kd.R_far (p := ⟨gb283, 2, none⟩) (Kd.R_far (p := ⟨gb283, 1, none⟩) (Kd.R_far (p := ⟨gb283, 0, none⟩) (Kd.R_types HO282.out BK283.out (by decide)) (fun _ hk => hk.2) (.int .i64 t270)) (fun _ hk => hk.2) (.int .i64 t271)) (fun _ hk => hk.2) (.int .i64 t272)) (fun _ hk => hk.2) (.int .i64 t273)) (fun _ hk => hk.2) (.slice Ao16 t274.length co16)) (fun _ hk => hk.2) (.slice Ao17 t277.length co17)) (fun _ hk => hk.2) (.slice (some ad284) t280.length co18)) (fun _ h_ => h_.1))) gb285 (Nat.le_of_eq hg.symm)) hb); have n4_ := Aside0.mk (blk_below (g := gb283) (o := .cells #[.int .i64 t270, .int .i64 t271, .int .i64 t272, .int .i64 t273, .slice Ao16 t274.length co16, .slice Ao17 t277.length co17, .slice (some ad284) t280.length co18] 81 (0, 0)) (by (with_reducible repeat (first | refine blk_drewN ?_ _ | refine blk_drew ?_ | refine blk_alloc ?_ _)); refine blk_put (cs := #[.int .i64 t270, .int .i64 t271, .int .i64 t272, .int .i64 t273, .slice Ao16 t274.length co16, .slice Ao17 t277.length co17, .slice none 0 0]) ?_ 6 _ rfl; (with_reducible repeat (first | refine blk_drewN ?_ _ | refine blk_drew ?_ | refine blk_alloc ?_ _)); refine blk_put (cs := #[.int .i64 t270, .int .i64 t271, .int .i64 t272, .int .i64 t273, .slice Ao16 t274.length co16, .slice none 0 0, .slice none 0 0]) ?_ 5 _ rfl; (with_reducible repeat (first | refine blk_drewN ?_ _ | refine blk_drew ?_ | refine blk_alloc ?_ _)); refine blk_put (cs := #[.int .i64 t270, .int .i64 t271, .int .i64 t272, .int .i64 t273, .slice none 0 0, .slice none 0 0, .slice none 0 0]) ?_ 4 _ rfl; (with_reducible repeat (first | refine blk_drewN ?_ _ | refine blk_drew ?_ | refine blk_alloc ?_ _)); refine blk_put (cs := #[.int .i64 t270, .int .i64 t271, .int .i64 t272, .int .i64 0, .slice none 0 0, .slice none 0 0, .slice none 0 0]) ?_ 3 _ rfl; (with_reducible repeat (first | refine blk_drewN ?_ _ | refine blk_drew ?_ | refine blk_alloc ?_ _)); refine blk_put (cs := #[.int .i64 t270, .int .i64 t271, .int .i64 0, .int .i64 0, .slice none 0 0, .slice none 0 0, .slice none 0 0]) ?_ 2 _ rfl; (with_reducible repeat (first | refine blk_drewN ?_ _ | refine blk_drew ?_ | refine blk_alloc ?_ _)); refine blk_put (cs := #[.int .i64 t270, .int .i64 0, .int .i64 0, .int .i64 0, .slice none 0 0, .slice none 0 0, .slice none 0 0]) ?_ 1 _ rfl; (with_reducible repeat (first | refine blk_drewN ?_ _ | refine blk_drew ?_ | refine blk_alloc ?_ _)); refine blk_put (cs := #[.int .i64 0, .int .i64 0, .int .i64 0, .int .i64 0, .slice none 0 0, .slice none 0 0, .slice none 0 0]) ?_ 0 _ rfl; (with_reducible repeat (first | refine blk_drewN ?_ _ | refine blk_drew ?_ | refine blk_alloc ?_ _)); exact BK283.out) hb); have n5_ := Aside0.mk (below_step (by repeat (first | (with_reducible first | exact HB.out | apply below_alloc | apply pw_below_drewN | apply below_drew1 | refine below_set ?_ GE283.out) | exact HB.out)) hb); have n6_ := Aside0.mk (hbox); have n7_ := Aside0.mk ((by rw [hg]; exact (below_size (by repeat (first | (with_reducible first | exact HB.out | apply below_alloc | apply pw_below_drewN | apply below_drew1 | refine below_set ?_ GE283.out) | exact HB.out))) : w.heap.size ≤ gb285)); have n8_ := Aside0.mk ((by rw [hg]; exact (below_size (by repeat (first | (with_reducible first | exact HB.out | apply below_alloc | apply pw_below_drewN | apply below_drew1 | refine below_set ?_ GE283.out) | exact HB.out))) : w.heap.size ≤ gb285)); have n9_ := Aside0.mk ((by rw [hg]; exact Nat.ne_of_lt (blk_lt (g := gb283) (o := .cells #[.int .i64 t270, .int .i64 t271, .int .i64 t272, .int .i64 t273, .slice Ao16 t274.length co16, .slice Ao17 t277.length co17, .slice (some ad284) t280.length co18] 81 (0, 0)) (by (with_reducible repeat (first | refine blk_drewN ?_ _ | refine blk_drew ?_ | refine blk_alloc ?_ _)); refine blk_put (cs := #[.int .i64 t270, .int .i64 t271, .int .i64 t272, .int .i64 t273, .slice Ao16 t274.length co16, .slice Ao17 t277.length co17, .slice none 0 0]) ?_ 6 _ rfl; (with_reducible repeat (first | refine blk_drewN ?_ _ | refine blk_drew ?_ | refine blk_alloc ?_ _)); refine blk_put (cs := #[.int .i64 t270, .int .i64 t271, .int .i64 t272, .int .i64 t273, .slice Ao16 t274.length co16, .slice none 0 0, .slice none 0 0]) ?_ 5 _ rfl; (with_reducible repeat (first | refine blk_drewN ?_ _ | refine blk_drew ?_ | refine blk_alloc ?_ _)); refine blk_put (cs := #[.int .i64 t270, .int .i64 t271, .int .i64 t272, .int .i64 t273, .slice none 0 0, .slice none 0 0, .slice none 0 0]) ?_ 4 _ rfl; (with_reducible repeat (first | refine blk_drewN ?_ _ | refine blk_drew ?_ | refine blk_alloc ?_ _)); refine blk_put (cs := #[.int .i64 t270, .int .i64 t271, .int .i64 t272, .int .i64 0, .slice none 0 0, .slice none 0 0, .slice none 0 0]) ?_ 3 _ rfl; (with_reducible repeat (first | refine blk_drewN ?_ _ | refine blk_drew ?_ | refine blk_alloc ?_ _)); refine blk_put (cs := #[.int .i64 t270, .int .i64 t271, .int .i64 0, .int .i64 0, .slice none 0 0, .slice none 0 0, .slice none 0 0]) ?_ 2 _ rfl; (with_reducible repeat (first | refine blk_drewN ?_ _ | refine blk_drew ?_ | refine blk_alloc ?_ _)); refine blk_put (cs := #[.int .i64 t270, .int .i64 0, .int .i64 0, .int .i64 0, .slice none 0 0, .slice none 0 0, .slice none 0 0]) ?_ 1 _ rfl; (with_reducible repeat (first | refine blk_drewN ?_ _ | refine blk_drew ?_ | refine blk_alloc ?_ _)); refine blk_put (cs := #[.int .i64 0, .int .i64 0, .int .i64 0, .int .i64 0, .slice none 0 0, .slice none 0 0, .slice none 0 0]) ?_ 0 _ rfl; (with_reducible repeat (first | refine blk_drewN ?_ _ | refine blk_drew ?_ | refine blk_alloc ?_ _)); exact BK283.out)) : gb283 ≠ gb285)); have n10_ := Aside0.mk ((by rw [hg]; exact Nat.ne_of_gt (blk_lt (g := gb283) (o := .cells #[.int .i64 t270, .int .i64 t271, .int .i64 t272, .int .i64 t273, .slice Ao16 t274.length co16, .slice Ao17 t277.length co17, .slice (some ad284) t280.length co18] 81 (0, 0)) (by (with_reducible repeat (first | refine blk_drewN ?_ _ | refine blk_drew ?_ | refine blk_alloc ?_ _)); refine blk_put (cs := #[.int .i64 t270, .int .i64 t271, .int .i64 t272, .int .i64 t273, .slice Ao16 t274.length co16, .slice Ao17 t277.length co17, .slice none 0 0]) ?_ 6 _ rfl; (with_reducible repeat (first | refine blk_drewN ?_ _ | refine blk_drew ?_ | refine blk_alloc ?_ _)); refine blk_put (cs := #[.int .i64 t270, .int .i64 t271, .int .i64 t272, .int .i64 t273, .slice Ao16 t274.length co16, .slice none 0 0, .slice none 0 0]) ?_ 5 _ rfl; (with_reducible repeat (first | refine blk_drewN ?_ _ | refine blk_drew ?_ | refine blk_alloc ?_ _)); refine blk_put (cs := #[.int .i64 t270, .int .i64 t271, .int .i64 t272, .int .i64 t273, .slice none 0 0, .slice none 0 0, .slice none 0 0]) ?_ 4 _ rfl; (with_reducible repeat (first | refine blk_drewN ?_ _ | refine blk_drew ?_ | refine blk_alloc ?_ _)); refine blk_put (cs := #[.int .i64 t270, .int .i64 t271, .int .i64 t272, .int .i64 0, .slice none 0 0, .slice none 0 0, .slice none 0 0]) ?_ 3 _ rfl; (with_reducible repeat (first | refine blk_drewN ?_ _ | refine blk_drew ?_ | refine blk_alloc ?_ _)); refine blk_put (cs := #[.int .i64 t270, .int .i64 t271, .int .i64 0, .int .i64 0, .slice none 0 0, .slice none 0 0, .slice none 0 0]) ?_ 2 _ rfl; (with_reducible repeat (first | refine blk_drewN ?_ _ | refine blk_drew ?_ | refine blk_alloc ?_ _)); refine blk_put (cs := #[.int .i64 t270, .int .i64 0, .int .i64 0, .int .i64 0, .slice none 0 0, .slice none 0 0, .slice none 0 0]) ?_ 1 _ rfl; (with_reducible repeat (first | refine blk_drewN ?_ _ | refine blk_drew ?_ | refine blk_alloc ?_ _)); refine blk_put (cs := #[.int .i64 0, .int .i64 0, .int .i64 0, .int .i64 0, .slice none 0 0, .slice none 0 0, .slice none 0 0]) ?_ 0 _ rfl; (with_reducible repeat (first | refine blk_drewN ?_ _ | refine blk_drew ?_ | refine blk_alloc ?_ _)); exact BK283.out)) : gb285 ≠ gb283)); clear HO269; clear HO276; clear HO279; clear HO282; clear BK283; clear HB; have HO269 := n0_; have HO276 := n1_; have HO279 := n2_; have HO282 := n3_; have BK283 := n4_; have HB := n5_; have BK285 := n6_; have GW285 := n7_; have GE285 := n8_; have NB283_285 := n9_; have NB285_283 := n10_; clear n0_ n1_ n2_ n3_ n4_ n5_ n6_ n7_ n8_ n9_ n10_; clear hb hbox hg; have hnb20 := NB285_283.out; have hnc20 := NB283_285.out; obtain ⟨hcz21_0, hcz21_1, hcz21_2, hcz21_3, hfz21_0, hfz21_1, hfz21_2, hfz21_3⟩ := blk_all4 BK285.out; obtain ⟨hcz22_0, hcz22_1, hcz22_2, hcz22_3, hcz22_4, hcz22_5, hcz22_6, hfz22_0, hfz22_1, hfz22_2, hfz22_3, hfz22_4, hfz22_5, hfz22_6⟩ := blk_all7 BK283.out) | ((with_reducible refine gate_callee (f := 42) rfl ?_); refine goesL_ (some 27) rfl rfl Try.func42 (by kernel_rfl) rfl #[.agg #[.int .i64 t270, .int .i64 t271, .int .i64 t272, .int .i64 t273, .slice Ao16 t274.length co16, .slice Ao17 t277.length co17, .slice (some ad284) t280.length co18]] rfl (by (try simp only [List.map_toArray, List.map_cons, List.map_nil]); first | done | rfl | (simp only [List.length_drop, List.length_take]; rfl)) ?_; (with_reducible refine (stopgatelaw05_To.calls k t270 t271 t272 t273 _ _ t274 _ _ t277 _ _ t280 t286 t287 t288 t289 t290 t293 t296 _ ?side1 ?side2 ?side3 ?side4 ?side5 ?side6 A6.out).mono ?_); (case side1 => refine (Kd.R_reads' (e := 176) (base := w.heap.size) (ok := fun k_ => True) (n := t274.length) (c := co16) ?_).2.2; exact (by (with_reducible repeat (first | apply Kd.R_alloc | apply Kd.R_drewN | apply Kd.R_drew)); exact (Kd.R_mono (Kd.R_far (p := ⟨gb285, 3, none⟩) (Kd.R_far (p := ⟨gb285, 2, none⟩) (Kd.R_far (p := ⟨gb285, 1, none⟩) (Kd.R_far (p := ⟨gb285, 0, none⟩) (Kd.R_types HO276.out BK285.out (by decide)) (fun _ hk => hk.2) (.int .i64 ((rd_T86 t280 0).f0))) (fun _ hk => hk.2) (.int .i64 ((rd_T86 t280 0).f1))) (fun _ hk => hk.2) (.int .i64 ((rd_T86 t280 0).f2))) (fun _ hk => hk.2) (.float .f64 ((rd_T86 t280 0).f3))) (fun _ h_ => h_.1)))); (case side2 => exact (Kd.R_reads' HO276.out).2.1); (case side3 => refine (Kd.R_reads' (e := 3) (base := w.heap.size) (ok := fun k_ => True) (n := t277.length) (c := co17) ?_).2.2; exact (by (with_reducible repeat (first | apply Kd.R_alloc | apply Kd.R_drewN | apply Kd.R_drew)); exact (Kd.R_mono (Kd.R_far (p := ⟨gb285, 3, none⟩) (Kd.R_far (p := ⟨gb285, 2, none⟩) (Kd.R_far (p := ⟨gb285, 1, none⟩) (Kd.R_far (p := ⟨gb285, 0, none⟩) (Kd.R_types HO279.out BK285.out (by decide)) (fun _ hk => hk.2) (.int .i64 ((rd_T86 t280 0).f0))) (fun _ hk => hk.2) (.int .i64 ((rd_T86 t280 0).f1))) (fun _ hk => hk.2) (.int .i64 ((rd_T86 t280 0).f2))) (fun _ hk => hk.2) (.float .f64 ((rd_T86 t280 0).f3))) (fun _ h_ => h_.1)))); (case side4 => exact (Kd.R_reads' HO279.out).2.1); (case side5 => refine (Kd.R_reads' (e := 86) (base := w.heap.size) (ok := fun k_ => ((True ∧ some k_ ≠ (.slice Ao12 y267.length co12 : Value).ownBlock) ∧ k_ ≠ gb285)) (n := t280.length) (c := co18) ?_).2.2; exact (by (with_reducible repeat (first | apply Kd.R_alloc | apply Kd.R_drewN | apply Kd.R_drew)); exact (Kd.R_mono (Kd.R_far (p := ⟨gb285, 3, none⟩) (Kd.R_far (p := ⟨gb285, 2, none⟩) (Kd.R_far (p := ⟨gb285, 1, none⟩) (Kd.R_far (p := ⟨gb285, 0, none⟩) (Kd.R_mono HO282.out (fun k_ hk => (⟨hk, hk.2⟩ : _ ∧ k_ ≠ gb285))) (fun _ hk => hk.2) (.int .i64 ((rd_T86 t280 0).f0))) (fun _ hk => hk.2) (.int .i64 ((rd_T86 t280 0).f1))) (fun _ hk => hk.2) (.int .i64 ((rd_T86 t280 0).f2))) (fun _ hk => hk.2) (.float .f64 ((rd_T86 t280 0).f3))) (fun _ h_ => h_.1)))); (case side6 => exact (Kd.R_reads' HO282.out).2.1); rintro e w23 ⟨v291, v294, v297, rfl, ho0, ho1, ho2, hb⟩; refine ⟨_, rfl, ?_⟩; have n0_ := Aside0.mk (Kd.R_below (by (with_reducible repeat (first | apply Kd.R_alloc | apply Kd.R_drewN | apply Kd.R_drew)); exact (Kd.R_mono (Kd.R_far (p := ⟨gb285, 3, none⟩) (Kd.R_far (p := ⟨gb285, 2, none⟩) (Kd.R_far (p := ⟨gb285, 1, none⟩) (Kd.R_far (p := ⟨gb285, 0, none⟩) (Kd.R_mono HO269.out (fun k_ hk => (⟨hk, hk.2⟩ : _ ∧ k_ ≠ gb285))) (fun _ hk => hk.2) (.int .i64 ((rd_T86 t280 0).f0))) (fun _ hk => hk.2) (.int .i64 ((rd_T86 t280 0).f1))) (fun _ hk => hk.2) (.int .i64 ((rd_T86 t280 0).f2))) (fun _ hk => hk.2) (.float .f64 ((rd_T86 t280 0).f3))) (fun _ h_ => h_.1))) hb); have n1_ := Aside0.mk (Kd.R_below (by (with_reducible repeat (first | apply Kd.R_alloc | apply Kd.R_drewN | apply Kd.R_drew)); exact (Kd.R_mono (Kd.R_far (p := ⟨gb285, 3, none⟩) (Kd.R_far (p := ⟨gb285, 2, none⟩) (Kd.R_far (p := ⟨gb285, 1, none⟩) (Kd.R_far (p := ⟨gb285, 0, none⟩) (Kd.R_types HO276.out BK285.out (by decide)) (fun _ hk => hk.2) (.int .i64 ((rd_T86 t280 0).f0))) (fun _ hk => hk.2) (.int .i64 ((rd_T86 t280 0).f1))) (fun _ hk => hk.2) (.int .i64 ((rd_T86 t280 0).f2))) (fun _ hk => hk.2) (.float .f64 ((rd_T86 t280 0).f3))) (fun _ h_ => h_.1))) hb); have n2_ := Aside0.mk (Kd.R_elder' (by (with_reducible repeat (first | apply Kd.R_alloc | apply Kd.R_drewN | apply Kd.R_drew)); exact (Kd.R_mono (Kd.R_far (p := ⟨gb285, 3, none⟩) (Kd.R_far (p := ⟨gb285, 2, none⟩) (Kd.R_far (p := ⟨gb285, 1, none⟩) (Kd.R_far (p := ⟨gb285, 0, none⟩) (Kd.R_types HO279.out BK285.out (by decide)) (fun _ hk => hk.2) (.int .i64 ((rd_T86 t280 0).f0))) (fun _ hk => hk.2) (.int .i64 ((rd_T86 t280 0).f1))) (fun _ hk => hk.2) (.int .i64 ((rd_T86 t280 0).f2))) (fun _ hk => hk.2) (.float .f64 ((rd_T86 t280 0).f3))) (fun _ h_ => h_.1))) (Kd.R_base ho1) hb); have n3_ := Aside0.mk (Kd.R_below (by (with_reducible repeat (first | apply Kd.R_alloc | apply Kd.R_drewN | apply Kd.R_drew)); exact (Kd.R_mono (Kd.R_far (p := ⟨gb285, 3, none⟩) (Kd.R_far (p := ⟨gb285, 2, none⟩) (Kd.R_far (p := ⟨gb285, 1, none⟩) (Kd.R_far (p := ⟨gb285, 0, none⟩) (Kd.R_mono HO282.out (fun k_ hk => (⟨hk, hk.2⟩ : _ ∧ k_ ≠ gb285))) (fun _ hk => hk.2) (.int .i64 ((rd_T86 t280 0).f0))) (fun _ hk => hk.2) (.int .i64 ((rd_T86 t280 0).f1))) (fun _ hk => hk.2) (.int .i64 ((rd_T86 t280 0).f2))) (fun _ hk => hk.2) (.float .f64 ((rd_T86 t280 0).f3))) (fun _ h_ => h_.1))) hb); have n4_ := Aside0.mk (Kd.R_lower ho0 (below_size (by repeat (first | (with_reducible first | exact HB.out | apply below_alloc | apply pw_below_drewN | apply below_drew1 | refine below_set ?_ GE283.out | refine below_set ?_ GE285.out) | exact HB.out)))); have n5_ := Aside0.mk (Kd.R_lower (Kd.R_new' ho1 (Kd.R_lt (by (with_reducible repeat (first | apply Kd.R_alloc | apply Kd.R_drewN | apply Kd.R_drew)); exact (Kd.R_mono (Kd.R_far (p := ⟨gb285, 3, none⟩) (Kd.R_far (p := ⟨gb285, 2, none⟩) (Kd.R_far (p := ⟨gb285, 1, none⟩) (Kd.R_far (p := ⟨gb285, 0, none⟩) (Kd.R_types HO279.out BK285.out (by decide)) (fun _ hk => hk.2) (.int .i64 ((rd_T86 t280 0).f0))) (fun _ hk => hk.2) (.int .i64 ((rd_T86 t280 0).f1))) (fun _ hk => hk.2) (.int .i64 ((rd_T86 t280 0).f2))) (fun _ hk => hk.2) (.float .f64 ((rd_T86 t280 0).f3))) (fun _ h_ => h_.1))))) (below_size (by repeat (first | (with_reducible first | exact HB.out | apply below_alloc | apply pw_below_drewN | apply below_drew1 | refine below_set ?_ GE283.out | refine below_set ?_ GE285.out) | exact HB.out)))); have n6_ := Aside0.mk (Kd.R_lower ho2 (below_size (by repeat (first | (with_reducible first | exact HB.out | apply below_alloc | apply pw_below_drewN | apply below_drew1 | refine below_set ?_ GE283.out | refine below_set ?_ GE285.out) | exact HB.out)))); have n7_ := Aside0.mk (blk_below (g := gb283) (o := .cells #[.int .i64 t270, .int .i64 t271, .int .i64 t272, .int .i64 t273, .slice Ao16 t274.length co16, .slice Ao17 t277.length co17, .slice (some ad284) t280.length co18] 81 (0, 0)) (by (with_reducible repeat (first | refine blk_drewN ?_ _ | refine blk_drew ?_ | refine blk_alloc ?_ _)); refine blk_far ?_ NB283_285.out _; (with_reducible repeat (first | refine blk_drewN ?_ _ | refine blk_drew ?_ | refine blk_alloc ?_ _)); refine blk_far ?_ NB283_285.out _; (with_reducible repeat (first | refine blk_drewN ?_ _ | refine blk_drew ?_ | refine blk_alloc ?_ _)); refine blk_far ?_ NB283_285.out _; (with_reducible repeat (first | refine blk_drewN ?_ _ | refine blk_drew ?_ | refine blk_alloc ?_ _)); refine blk_far ?_ NB283_285.out _; (with_reducible repeat (first | refine blk_drewN ?_ _ | refine blk_drew ?_ | refine blk_alloc ?_ _)); exact BK283.out) hb); have n8_ := Aside0.mk (blk_below (g := gb285) (o := .cells #[.int .i64 ((rd_T86 t280 0).f0), .int .i64 ((rd_T86 t280 0).f1), .int .i64 ((rd_T86 t280 0).f2), .float .f64 ((rd_T86 t280 0).f3)] 86 (0, 0)) (by (with_reducible repeat (first | refine blk_drewN ?_ _ | refine blk_drew ?_ | refine blk_alloc ?_ _)); refine blk_put (cs := #[.int .i64 ((rd_T86 t280 0).f0), .int .i64 ((rd_T86 t280 0).f1), .int .i64 ((rd_T86 t280 0).f2), .float .f64 0]) ?_ 3 _ rfl; (with_reducible repeat (first | refine blk_drewN ?_ _ | refine blk_drew ?_ | refine blk_alloc ?_ _)); refine blk_put (cs := #[.int .i64 ((rd_T86 t280 0).f0), .int .i64 ((rd_T86 t280 0).f1), .int .i64 0, .float .f64 0]) ?_ 2 _ rfl; (with_reducible repeat (first | refine blk_drewN ?_ _ | refine blk_drew ?_ | refine blk_alloc ?_ _)); refine blk_put (cs := #[.int .i64 ((rd_T86 t280 0).f0), .int .i64 0, .int .i64 0, .float .f64 0]) ?_ 1 _ rfl; (with_reducible repeat (first | refine blk_drewN ?_ _ | refine blk_drew ?_ | refine blk_alloc ?_ _)); refine blk_put (cs := #[.int .i64 0, .int .i64 0, .int .i64 0, .float .f64 0]) ?_ 0 _ rfl; (with_reducible repeat (first | refine blk_drewN ?_ _ | refine blk_drew ?_ | refine blk_alloc ?_ _)); exact BK285.out) hb); have n9_ := Aside0.mk (below_step (by repeat (first | (with_reducible first | exact HB.out | apply below_alloc | apply pw_below_drewN | apply below_drew1 | refine below_set ?_ GE283.out | refine below_set ?_ GE285.out) | exact HB.out)) hb); clear HO269; clear HO276; clear HO279; clear HO282; clear BK283; clear BK285; clear HB; have HO269 := n0_; have HO276 := n1_; have HO279 := n2_; have HO282 := n3_; have HO292 := n4_; have HO295 := n5_; have HO298 := n6_; have BK283 := n7_; have BK285 := n8_; have HB := n9_; clear n0_ n1_ n2_ n3_ n4_ n5_ n6_ n7_ n8_ n9_; (try clear hb); (try clear hb2); (try clear hk); (try clear hi); (try clear ho0); (try clear ho1); (try clear ho2); obtain ⟨Ao24, co24, eo24⟩ := Kd.R_slice HO292.out; subst eo24; obtain ⟨Ao25, co25, eo25⟩ := Kd.R_slice HO295.out; subst eo25; obtain ⟨Ao26, co26, eo26⟩ := Kd.R_slice HO298.out; subst eo26) | ((with_reducible refine gate_callee (f := 53) rfl ?_); refine goesL_ (some 30) rfl rfl Try.func53 (by kernel_rfl) rfl #[.agg #[.int .i64 t286, .int .i64 t287, .int .i64 t288, .int .i64 t289, .slice Ao24 t290.length co24, .slice Ao25 t293.length co25, .slice Ao26 t296.length co26], .agg #[.int .i64 0, .int .i64 0, .bool false, .int .i64 a2, .int .i64 1, .int .i64 0, .int .i64 0]] rfl (by (try simp only [List.map_toArray, List.map_cons, List.map_nil]); first | done | rfl | (simp only [List.length_drop, List.length_take]; rfl)) ?_; (with_reducible refine (rules_Look.calls k t286 t287 t288 t289 _ _ t290 _ _ t293 _ _ t296 0 0 false a2 1 0 0 t299 t300 _ ?side1 ?side2 ?side3 ?side4 ?side5 ?side6 A7.out).mono ?_); (case side1 => repeat (first | exact (Kd.R_reads' HO292.out).2.2 | (with_reducible refine Kd.C_alloc ?_ _) | (with_reducible refine Kd.C_drewN ?_ _) | (with_reducible refine Kd.C_drew ?_))); (case side2 => exact (Kd.R_reads' HO292.out).2.1); (case side3 => repeat (first | exact (Kd.R_reads' HO295.out).2.2 | (with_reducible refine Kd.C_alloc ?_ _) | (with_reducible refine Kd.C_drewN ?_ _) | (with_reducible refine Kd.C_drew ?_))); (case side4 => exact (Kd.R_reads' HO295.out).2.1); (case side5 => repeat (first | exact (Kd.R_reads' HO298.out).2.2 | (with_reducible refine Kd.C_alloc ?_ _) | (with_reducible refine Kd.C_drewN ?_ _) | (with_reducible refine Kd.C_drew ?_))); (case side6 => exact (Kd.R_reads' HO298.out).2.1); rintro e w27 ⟨rfl, hb⟩; refine ⟨_, rfl, ?_⟩; have n0_ := Aside0.mk (Kd.R_below (by (with_reducible repeat (first | apply Kd.R_alloc | apply Kd.R_drewN | apply Kd.R_drew)); exact HO269.out) hb); have n1_ := Aside0.mk (Kd.R_below (by (with_reducible repeat (first | apply Kd.R_alloc | apply Kd.R_drewN | apply Kd.R_drew)); exact HO276.out) hb); have n2_ := Aside0.mk (Kd.R_below (by (with_reducible repeat (first | apply Kd.R_alloc | apply Kd.R_drewN | apply Kd.R_drew)); exact HO279.out) hb); have n3_ := Aside0.mk (Kd.R_below (by (with_reducible repeat (first | apply Kd.R_alloc | apply Kd.R_drewN | apply Kd.R_drew)); exact HO282.out) hb); have n4_ := Aside0.mk (Kd.R_below (by (with_reducible repeat (first | apply Kd.R_alloc | apply Kd.R_drewN | apply Kd.R_drew)); exact HO292.out) hb); have n5_ := Aside0.mk (Kd.R_below (by (with_reducible repeat (first | apply Kd.R_alloc | apply Kd.R_drewN | apply Kd.R_drew)); exact HO295.out) hb); have n6_ := Aside0.mk (Kd.R_below (by (with_reducible repeat (first | apply Kd.R_alloc | apply Kd.R_drewN | apply Kd.R_drew)); exact HO298.out) hb); have n7_ := Aside0.mk (blk_below (g := gb283) (o := .cells #[.int .i64 t270, .int .i64 t271, .int .i64 t272, .int .i64 t273, .slice Ao16 t274.length co16, .slice Ao17 t277.length co17, .slice (some ad284) t280.length co18] 81 (0, 0)) (by (with_reducible repeat (first | refine blk_drewN ?_ _ | refine blk_drew ?_ | refine blk_alloc ?_ _)); exact BK283.out) hb); have n8_ := Aside0.mk (blk_below (g := gb285) (o := .cells #[.int .i64 ((rd_T86 t280 0).f0), .int .i64 ((rd_T86 t280 0).f1), .int .i64 ((rd_T86 t280 0).f2), .float .f64 ((rd_T86 t280 0).f3)] 86 (0, 0)) (by (with_reducible repeat (first | refine blk_drewN ?_ _ | refine blk_drew ?_ | refine blk_alloc ?_ _)); exact BK285.out) hb); have n9_ := Aside0.mk (below_step (by repeat (first | (with_reducible first | exact HB.out | apply below_alloc | apply pw_below_drewN | apply below_drew1 | refine below_set ?_ GE283.out | refine below_set ?_ GE285.out) | exact HB.out)) hb); clear HO269; clear HO276; clear HO279; clear HO282; clear HO292; clear HO295; clear HO298; clear BK283; clear BK285; clear HB; have HO269 := n0_; have HO276 := n1_; have HO279 := n2_; have HO282 := n3_; have HO292 := n4_; have HO295 := n5_; have HO298 := n6_; have BK283 := n7_; have BK285 := n8_; have HB := n9_; clear n0_ n1_ n2_ n3_ n4_ n5_ n6_ n7_ n8_ n9_; (try clear hb); (try clear hb2); (try clear hk); (try clear hi); obtain ⟨hcz28_0, hcz28_1, hcz28_2, hcz28_3, hfz28_0, hfz28_1, hfz28_2, hfz28_3⟩ := blk_all4 BK285.out) | ((with_reducible refine gate_callee (f := 58) rfl ?_); refine goesL_ (some 38) rfl rfl Try.func58 (by kernel_rfl) rfl #[.int .i64 ((rd_T86 t280 0).f0), .float .f64 ((rd_T86 t280 0).f3)] rfl (by (try simp only [List.map_toArray, List.map_cons, List.map_nil]); first | done | rfl | (simp only [List.length_drop, List.length_take]; rfl)) ?_; (with_reducible refine (band_Collar.calls ((rd_T86 t280 0).f0) ((rd_T86 t280 0).f3) t301 t302 t303 _ A8.out).mono ?_); rintro e w29 ⟨rfl, hb⟩; refine ⟨_, rfl, ?_⟩; have n0_ := Aside0.mk (Kd.R_below (by (with_reducible repeat (first | apply Kd.R_alloc | apply Kd.R_drewN | apply Kd.R_drew)); exact HO269.out) hb); have n1_ := Aside0.mk (Kd.R_below (by (with_reducible repeat (first | apply Kd.R_alloc | apply Kd.R_drewN | apply Kd.R_drew)); exact HO276.out) hb); have n2_ := Aside0.mk (Kd.R_below (by (with_reducible repeat (first | apply Kd.R_alloc | apply Kd.R_drewN | apply Kd.R_drew)); exact HO279.out) hb); have n3_ := Aside0.mk (Kd.R_below (by (with_reducible repeat (first | apply Kd.R_alloc | apply Kd.R_drewN | apply Kd.R_drew)); exact HO282.out) hb); have n4_ := Aside0.mk (Kd.R_below (by (with_reducible repeat (first | apply Kd.R_alloc | apply Kd.R_drewN | apply Kd.R_drew)); exact HO292.out) hb); have n5_ := Aside0.mk (Kd.R_below (by (with_reducible repeat (first | apply Kd.R_alloc | apply Kd.R_drewN | apply Kd.R_drew)); exact HO295.out) hb); have n6_ := Aside0.mk (Kd.R_below (by (with_reducible repeat (first | apply Kd.R_alloc | apply Kd.R_drewN | apply Kd.R_drew)); exact HO298.out) hb); have n7_ := Aside0.mk (blk_below (g := gb283) (o := .cells #[.int .i64 t270, .int .i64 t271, .int .i64 t272, .int .i64 t273, .slice Ao16 t274.length co16, .slice Ao17 t277.length co17, .slice (some ad284) t280.length co18] 81 (0, 0)) (by (with_reducible repeat (first | refine blk_drewN ?_ _ | refine blk_drew ?_ | refine blk_alloc ?_ _)); exact BK283.out) hb); have n8_ := Aside0.mk (blk_below (g := gb285) (o := .cells #[.int .i64 ((rd_T86 t280 0).f0), .int .i64 ((rd_T86 t280 0).f1), .int .i64 ((rd_T86 t280 0).f2), .float .f64 ((rd_T86 t280 0).f3)] 86 (0, 0)) (by (with_reducible repeat (first | refine blk_drewN ?_ _ | refine blk_drew ?_ | refine blk_alloc ?_ _)); exact BK285.out) hb); have n9_ := Aside0.mk (below_step (by repeat (first | (with_reducible first | exact HB.out | apply below_alloc | apply pw_below_drewN | apply below_drew1 | refine below_set ?_ GE283.out | refine below_set ?_ GE285.out) | exact HB.out)) hb); clear HO269; clear HO276; clear HO279; clear HO282; clear HO292; clear HO295; clear HO298; clear BK283; clear BK285; clear HB; have HO269 := n0_; have HO276 := n1_; have HO279 := n2_; have HO282 := n3_; have HO292 := n4_; have HO295 := n5_; have HO298 := n6_; have BK283 := n7_; have BK285 := n8_; have HB := n9_; clear n0_ n1_ n2_ n3_ n4_ n5_ n6_ n7_ n8_ n9_; (try clear hb); (try clear hb2); (try clear hk); (try clear hi)))
  (try simp only [Act.put, List.setIfInBounds_toArray, List.set_cons_zero, List.set_cons_succ])
  go_cut [47] (fun v47 wc => ∃ (kq : Nat) (x47_8 : Bool), v47 = .bool x47_8 ∧ Aside0 (stopgatelaw05_RulesPrices.j0 kq a2 t299 t300 t301 t302 x47_8 = some r) ∧ Aside0 (kq ≤ k) ∧ Aside0 (Kd.R k176 176 wc w.heap.size (fun _ => True) (.slice Ao16 t274.length co16) t274) ∧ Aside0 (Kd.R (Kd.int .i64) 3 wc w.heap.size (fun _ => True) (.slice Ao17 t277.length co17) t277) ∧ Aside0 (Kd.R k86 86 wc w.heap.size (fun k_ => k_ ≠ gb285) (.slice (some ad284) t280.length co18) t280) ∧ Aside0 (wc.heap[gb283]? = some (.cells #[.int .i64 t270, .int .i64 t271, .int .i64 t272, .int .i64 t273, (.slice Ao16 t274.length co16), (.slice Ao17 t277.length co17), (.slice (some ad284) t280.length co18)] 81 (0, 0))) ∧ Aside0 (wc.heap[gb285]? = some (.cells #[.int .i64 ((rd_T86 t280 0).f0), .int .i64 ((rd_T86 t280 0).f1), .int .i64 ((rd_T86 t280 0).f2), .float .f64 ((rd_T86 t280 0).f3)] 86 (0, 0))) ∧ Aside0 (Below w.heap.size w wc))
  case first =>
   have H := HC9.out
   clear HC9
   replace H := Option.bind_eq_some_iff.mp H
   obtain ⟨t304, A300, H⟩ := H
   replace H : (if t304 = true then (stopgatelaw05_RulesPrices.j0 k a2 t299 t300 t301 t302 (!t303)) else (none)) = some r := H
   have A30 := Aside0.mk A300
   clear A300
   by_cases c31 : t304 = true
   ·subst c31
    have H1 : (stopgatelaw05_RulesPrices.j0 k a2 t299 t300 t301 t302 (!t303)) = some r := by rw [if_pos rfl] at H; exact H
    clear H
    have H := H1
    clear H1
    have H' := Aside0.mk H
    clear H
    go_wp2_with (first | ((with_reducible refine gate_callee (f := 50) rfl ?_); refine goesL_ (some 42) rfl rfl Try.func50 (by kernel_rfl) rfl #[] rfl (by (try simp only [List.map_toArray, List.map_cons, List.map_nil]); first | done | rfl | (simp only [List.length_drop, List.length_take]; rfl)) ?_; (with_reducible refine (stopgatelaw05_told.calls k  true _ A30.out).mono ?_); rintro e w32 ⟨rfl, hb⟩; refine ⟨_, rfl, ?_⟩; have n0_ := Aside0.mk (Kd.R_below (by (with_reducible repeat (first | apply Kd.R_alloc | apply Kd.R_drewN | apply Kd.R_drew)); exact HO269.out) hb); have n1_ := Aside0.mk (Kd.R_below (by (with_reducible repeat (first | apply Kd.R_alloc | apply Kd.R_drewN | apply Kd.R_drew)); exact HO276.out) hb); have n2_ := Aside0.mk (Kd.R_below (by (with_reducible repeat (first | apply Kd.R_alloc | apply Kd.R_drewN | apply Kd.R_drew)); exact HO279.out) hb); have n3_ := Aside0.mk (Kd.R_below (by (with_reducible repeat (first | apply Kd.R_alloc | apply Kd.R_drewN | apply Kd.R_drew)); exact HO282.out) hb); have n4_ := Aside0.mk (Kd.R_below (by (with_reducible repeat (first | apply Kd.R_alloc | apply Kd.R_drewN | apply Kd.R_drew)); exact HO292.out) hb); have n5_ := Aside0.mk (Kd.R_below (by (with_reducible repeat (first | apply Kd.R_alloc | apply Kd.R_drewN | apply Kd.R_drew)); exact HO295.out) hb); have n6_ := Aside0.mk (Kd.R_below (by (with_reducible repeat (first | apply Kd.R_alloc | apply Kd.R_drewN | apply Kd.R_drew)); exact HO298.out) hb); have n7_ := Aside0.mk (blk_below (g := gb283) (o := .cells #[.int .i64 t270, .int .i64 t271, .int .i64 t272, .int .i64 t273, .slice Ao16 t274.length co16, .slice Ao17 t277.length co17, .slice (some ad284) t280.length co18] 81 (0, 0)) (by (with_reducible repeat (first | refine blk_drewN ?_ _ | refine blk_drew ?_ | refine blk_alloc ?_ _)); exact BK283.out) hb); have n8_ := Aside0.mk (blk_below (g := gb285) (o := .cells #[.int .i64 ((rd_T86 t280 0).f0), .int .i64 ((rd_T86 t280 0).f1), .int .i64 ((rd_T86 t280 0).f2), .float .f64 ((rd_T86 t280 0).f3)] 86 (0, 0)) (by (with_reducible repeat (first | refine blk_drewN ?_ _ | refine blk_drew ?_ | refine blk_alloc ?_ _)); exact BK285.out) hb); have n9_ := Aside0.mk (below_step (by repeat (first | (with_reducible first | exact HB.out | apply below_alloc | apply pw_below_drewN | apply below_drew1 | refine below_set ?_ GE283.out | refine below_set ?_ GE285.out) | exact HB.out)) hb); clear HO269; clear HO276; clear HO279; clear HO282; clear HO292; clear HO295; clear HO298; clear BK283; clear BK285; clear HB; have HO269 := n0_; have HO276 := n1_; have HO279 := n2_; have HO282 := n3_; have HO292 := n4_; have HO295 := n5_; have HO298 := n6_; have BK283 := n7_; have BK285 := n8_; have HB := n9_; clear n0_ n1_ n2_ n3_ n4_ n5_ n6_ n7_ n8_ n9_; (try clear hb); (try clear hb2); (try clear hk); (try clear hi)))
    go_meet
    case rel => exact ⟨_, (!t303), (by first | rfl | (simp; done) | (simp [*]; done)), H', ⟨by first | omega | exact Nat.le_refl _⟩, ⟨by (with_reducible repeat (first | apply Kd.R_alloc | apply Kd.R_drewN | apply Kd.R_drew)); exact HO276.out⟩, ⟨by (with_reducible repeat (first | apply Kd.R_alloc | apply Kd.R_drewN | apply Kd.R_drew)); exact Kd.R_mono HO279.out (fun _ hk => trivial)⟩, ⟨by (with_reducible repeat (first | apply Kd.R_alloc | apply Kd.R_drewN | apply Kd.R_drew)); exact Kd.R_mono HO282.out (fun _ hk => hk.2)⟩, ⟨by (with_reducible repeat (first | refine blk_drewN ?_ _ | refine blk_drew ?_ | refine blk_alloc ?_ _)); exact BK283.out⟩, ⟨by (with_reducible repeat (first | refine blk_drewN ?_ _ | refine blk_drew ?_ | refine blk_alloc ?_ _)); exact BK285.out⟩, ⟨by repeat (first | (with_reducible first | exact HB.out | apply below_alloc | apply pw_below_drewN | apply below_drew1 | refine below_set ?_ GE283.out | refine below_set ?_ GE285.out) | exact HB.out)⟩⟩
   ·replace c31 := Bool.eq_false_iff.mpr c31
    subst c31
    have H1 : (none) = some r := by rw [if_neg (show ¬ (false = true) by decide)] at H; exact H
    clear H
    have H := H1
    clear H1
    exact absurd H (by simp)
  case rest =>
   clear HC9
   try clear c1
   try clear c2
   try clear p2
   try clear q2
   try clear hx2
   try clear qi2
   try clear c3
   try clear c4
   try clear c5
   try clear c5b0
   try clear c5b1
   try clear c14
   try clear c20
   try clear p28
   try clear q28
   try clear hx28
   try clear qi28
   try clear c31
   try clear hcz15_0
   try clear hcz15_1
   try clear hcz15_2
   try clear hcz15_3
   try clear hcz15_4
   try clear hcz15_5
   try clear hcz15_6
   try clear hcz21_0
   try clear hcz21_1
   try clear hcz21_2
   try clear hcz21_3
   try clear hcz22_0
   try clear hcz22_1
   try clear hcz22_2
   try clear hcz22_3
   try clear hcz22_4
   try clear hcz22_5
   try clear hcz22_6
   try clear hcz28_0
   try clear hcz28_1
   try clear hcz28_2
   try clear hcz28_3
   try clear hfz15_0
   try clear hfz15_1
   try clear hfz15_2
   try clear hfz15_3
   try clear hfz15_4
   try clear hfz15_5
   try clear hfz15_6
   try clear hfz21_0
   try clear hfz21_1
   try clear hfz21_2
   try clear hfz21_3
   try clear hfz22_0
   try clear hfz22_1
   try clear hfz22_2
   try clear hfz22_3
   try clear hfz22_4
   try clear hfz22_5
   try clear hfz22_6
   try clear hfz28_0
   try clear hfz28_1
   try clear hfz28_2
   try clear hfz28_3
   try clear hx284_0
   try clear hx284_1
   try clear hx284_2
   try clear hx284_3
   try clear p284
   try clear q284
   obtain ⟨kq, x47_8, rfl, HA, HJ8, HO_284004, HO_284005, HO_284006, BK283, BK285, HB⟩ := hcut
   cases kq with
   | zero => exact absurd HA.out (by simp [stopgatelaw05_RulesPrices.j0])
   | succ kj8 =>
    have H := HA.out
    clear HA
    simp only [stopgatelaw05_RulesPrices.j0] at H
    by_cases c33 : x47_8 = true
    ·subst c33
     have H1 : (none) = some r := by rw [if_pos rfl] at H; exact H
     clear H
     have H := H1
     clear H1
     exact absurd H (by simp)
    ·replace c33 := Bool.eq_false_iff.mpr c33
     subst c33
     have H1 : (if a2 < 1 then (if t299 = 1 then (some (t300 == 0)) else (none)) else (if a2 ≥ t301 then (if ((t299 == 0) == (decide (a2 ≤ t302))) = true then (if t299 = 0 then (if t300 = a2 then (some true) else (none)) else (if t299 = 8 then (some (t300 == 0)) else (none))) else (none)) else (if ((t299 == 0) == false) = true then (if t299 = 0 then (if t300 = a2 then (some true) else (none)) else (if t299 = 8 then (some (t300 == 0)) else (none))) else (none)))) = some r := by rw [if_neg (show ¬ (false = true) by decide)] at H; exact H
     clear H
     have H := H1
     clear H1
     by_cases c34 : a2 < 1
     ·rw [if_pos c34] at H
      have c34b0 : decide (a2 < 1) = true := decide_eq_true c34
      clear c34
      by_cases c35 : t299 = 1
      ·rw [if_pos c35] at H
       have c35b0 : (t299 == 1) = true := beq_iff_eq.mpr c35
       have c35b1 : (t299 != 1) = false := bne_eq_false_iff_eq.mpr c35
       clear c35
       obtain rfl := Option.some.inj H
       go_wp2
       go_ret
       exact ⟨by first | rfl | (simp [errW_none, errW_some] <;> rfl) | (simp [*, errW_none, errW_some] <;> rfl), by repeat (first | (with_reducible first | exact HB.out | apply below_alloc | apply pw_below_drewN | apply below_drew1 | refine below_set ?_ GE283.out | refine below_set ?_ GE285.out) | exact HB.out)⟩
      ·rw [if_neg c35] at H
       exact absurd H (by simp)
     ·rw [if_neg c34] at H
      have c34b0 : decide (a2 < 1) = false := decide_eq_false c34
      clear c34
      by_cases c36 : a2 ≥ t301
      ·rw [if_pos c36] at H
       have c36b0 : decide (t301 ≤ a2) = true := decide_eq_true c36
       clear c36
       by_cases c37 : ((t299 == 0) == (decide (a2 ≤ t302))) = true
       ·rw [if_pos c37] at H
        have c37b0 : ((t299 == 0) == (decide (a2 ≤ t302))) = true := c37
        (try (have c37b1 : decide ((t299 == 0) = (decide (a2 ≤ t302))) = true := by simpa using c37))
        (try (have c37b2 : ((t299 == 0) == (decide (a2 ≤ t302))) = true := by simpa using c37))
        clear c37
        by_cases c38 : t299 = 0
        ·rw [if_pos c38] at H
         have c38b0 : (t299 == 0) = true := beq_iff_eq.mpr c38
         have c38b1 : (t299 != 0) = false := bne_eq_false_iff_eq.mpr c38
         have q_ : decide (a2 ≤ t302) = true := by simpa [c38b0] using c37b0
         clear c38
         by_cases c39 : t300 = a2
         ·rw [if_pos c39] at H
          have c39b0 : (t300 == a2) = true := beq_iff_eq.mpr c39
          have c39b1 : (t300 != a2) = false := bne_eq_false_iff_eq.mpr c39
          clear c39
          obtain rfl := Option.some.inj H
          go_wp2
          go_ret
          exact ⟨by first | rfl | (simp [errW_none, errW_some] <;> rfl) | (simp [*, errW_none, errW_some] <;> rfl), by repeat (first | (with_reducible first | exact HB.out | apply below_alloc | apply pw_below_drewN | apply below_drew1 | refine below_set ?_ GE283.out | refine below_set ?_ GE285.out) | exact HB.out)⟩
         ·rw [if_neg c39] at H
          exact absurd H (by simp)
        ·rw [if_neg c38] at H
         have c38b0 : (t299 == 0) = false := beq_eq_false_iff_ne.mpr c38
         have c38b1 : (t299 != 0) = true := bne_iff_ne.mpr c38
         have q_ : decide (a2 ≤ t302) = false := by simpa [c38b0] using c37b0
         by_cases c40 : t299 = 8
         ·rw [if_pos c40] at H
          have c40b0 : (t299 == 8) = true := beq_iff_eq.mpr c40
          have c40b1 : (t299 != 8) = false := bne_eq_false_iff_eq.mpr c40
          clear c40
          obtain rfl := Option.some.inj H
          go_wp2
          go_ret
          exact ⟨by first | rfl | (simp [errW_none, errW_some] <;> rfl) | (simp [*, errW_none, errW_some] <;> rfl), by repeat (first | (with_reducible first | exact HB.out | apply below_alloc | apply pw_below_drewN | apply below_drew1 | refine below_set ?_ GE283.out | refine below_set ?_ GE285.out) | exact HB.out)⟩
         ·rw [if_neg c40] at H
          exact absurd H (by simp)
       ·rw [if_neg c37] at H
        exact absurd H (by simp)
      ·rw [if_neg c36] at H
       have c36b0 : decide (t301 ≤ a2) = false := decide_eq_false c36
       clear c36
       by_cases c41 : ((t299 == 0) == false) = true
       ·rw [if_pos c41] at H
        have c41b0 : ((t299 == 0) == false) = true := c41
        (try (have c41b1 : decide ((t299 == 0) = false) = true := by simpa using c41))
        (try (have c41b2 : ((t299 == 0) == false) = true := by simpa using c41))
        clear c41
        by_cases c42 : t299 = 0
        ·rw [if_pos c42] at H
         have c42b0 : (t299 == 0) = true := beq_iff_eq.mpr c42
         have c42b1 : (t299 != 0) = false := bne_eq_false_iff_eq.mpr c42
         exfalso
         simp [c42b0] at c41b0
        ·rw [if_neg c42] at H
         have c42b0 : (t299 == 0) = false := beq_eq_false_iff_ne.mpr c42
         have c42b1 : (t299 != 0) = true := bne_iff_ne.mpr c42
         by_cases c44 : t299 = 8
         ·rw [if_pos c44] at H
          have c44b0 : (t299 == 8) = true := beq_iff_eq.mpr c44
          have c44b1 : (t299 != 8) = false := bne_eq_false_iff_eq.mpr c44
          clear c44
          obtain rfl := Option.some.inj H
          go_wp2
          go_ret
          exact ⟨by first | rfl | (simp [errW_none, errW_some] <;> rfl) | (simp [*, errW_none, errW_some] <;> rfl), by repeat (first | (with_reducible first | exact HB.out | apply below_alloc | apply pw_below_drewN | apply below_drew1 | refine below_set ?_ GE283.out | refine below_set ?_ GE285.out) | exact HB.out)⟩
         ·rw [if_neg c44] at H
          exact absurd H (by simp)
       ·rw [if_neg c41] at H
        exact absurd H (by simp)
 ·rw [if_neg c5] at H
  exact absurd H (by simp)

/-- THE ONE PURE STATEMENT of stopgatelaw05_RulesPrices: yours. -/
def stopgatelaw05_RulesPrices.Pure : Prop := ∀ (a0 : Int) (a1 : Int) (a2 : Int), (Lit.int .i64 a0).wf = true → (Lit.int .u64 a1).wf = true → (Lit.int .i64 a2).wf = true → ∃ k, stopgatelaw05_RulesPrices.f k a0 a1 a2 = some true
theorem stopgatelaw05_RulesPrices.walk (P : stopgatelaw05_RulesPrices.Pure) (a0 : Int) (a1 : Int) (a2 : Int) (w : World) (h_0 : (Lit.int .i64 a0).wf = true) (h_1 : (Lit.int .u64 a1).wf = true) (h_2 : (Lit.int .i64 a2).wf = true) :
  Calls Try.prog 14 #[.int .i64 a0, .int .u64 a1, .int .i64 a2] w fun e w' => e = .returned (.bool true) ∧ Below w.heap.size w w' := by
 obtain ⟨k, h⟩ := P a0 a1 a2 h_0 h_1 h_2
 refine (stopgatelaw05_RulesPrices.calls k a0 a1 a2 true w h).mono ?_
 rintro e w' ⟨rfl, hd⟩
 exact ⟨rfl, hd⟩

end Go.Proofs.Ytgikjgekdeaneaa.QRulesPrices
