/- Printed by wip/gen/myprint.py, a program of this session, for this claim: functions of the program as Lean functions, each with a proof that the Go code comes to its answers. -/
import Derived.Test.YtgikjgekdeaneaaQRulesChecksx0
import Derived.Test.YtgikjgekdeaneaaQRulesChecksx1
import Derived.Test.YtgikjgekdeaneaaQRulesChecksx2
import Derived.Test.YtgikjgekdeaneaaQRulesChecksx3
import Derived.Test.YtgikjgekdeaneaaQRulesChecksx7
import Derived.Test.YtgikjgekdeaneaaQRulesChecksx9
import Derived.Test.YtgikjgekdeaneaaQRulesChecksx11
namespace Go.Proofs.Ytgikjgekdeaneaa.QRulesChecks
open Go.RowKit Go.Proofs.YtgikjgekdeaneaaW.PrintWords Go.Proofs.YtgikjgekdeaneaaW.PrintLast Go.Proofs.YtgikjgekdeaneaaW.PrintMore
attribute [local go_sem] max2_int min2_int max_two min_two max_three min_three max_four min_four   -- for this text's walks alone
set_option linter.unusedVariables false
set_option linter.unusedSimpArgs false

attribute [local go_sem] run_store_flt
/-! ### stopgatelaw05_RulesChecks: function 12 -/
def stopgatelaw05_RulesChecks.f (k : Nat) (a0_0 : Int) (a0_1 : Int) (a0_2 : Int) (a0_3 : Int) (l0_4 : List (S176)) (l0_5 : List Int) (l0_6 : List (S145)) : Option (Bool) := (stopgatelaw05_few.f a0_0 a0_1 a0_2 a0_3 l0_4 l0_5 l0_6).bind fun bt309 => ((stopgatelaw05_Ref.f k bt309.1 bt309.2.1 bt309.2.2.1 bt309.2.2.2.1 bt309.2.2.2.2.1 bt309.2.2.2.2.2.1 bt309.2.2.2.2.2.2).bind fun bt322 => ((stopgatelaw05_told.f k).bind fun t336 => (if t336 = true then ((stopgatelaw05_To.f k bt322.1 bt322.2.1 bt322.2.2.1 bt322.2.2.2.1 bt322.2.2.2.2.1 bt322.2.2.2.2.2.1 bt322.2.2.2.2.2.2).bind fun bt337 => ((rules_Check.f k bt337.1 bt337.2.1 bt337.2.2.1 bt337.2.2.2.1 bt337.2.2.2.2.1 bt337.2.2.2.2.2.1 bt337.2.2.2.2.2.2).bind fun t350 => ((stopgateref05_Check.f k bt322.1 bt322.2.1 bt322.2.2.1 bt322.2.2.2.1 bt322.2.2.2.2.1 bt322.2.2.2.2.2.1 bt322.2.2.2.2.2.2).bind fun t351 => (some (t350 == t351))))) else (none))))
theorem stopgatelaw05_RulesChecks.mono : ∀ a0 a1 a2 a3 a4 a5 a6 k, LeO (stopgatelaw05_RulesChecks.f k a0 a1 a2 a3 a4 a5 a6) (stopgatelaw05_RulesChecks.f (k + 1) a0 a1 a2 a3 a4 a5 a6) := by
 intro a0 a1 a2 a3 a4 a5 a6 k
 unfold stopgatelaw05_RulesChecks.f
 repeat' first
   | (with_reducible exact rules_Check.mono _ _ _ _ _ _ _ _)
   | (with_reducible exact stopgatelaw05_Ref.mono _ _ _ _ _ _ _ _)
   | (with_reducible exact stopgatelaw05_To.mono _ _ _ _ _ _ _ _)
   | (with_reducible exact stopgatelaw05_told.mono _)
   | (with_reducible exact stopgateref05_Check.mono _ _ _ _ _ _ _ _)
   | (with_reducible exact LeO.refl _)
   | (with_reducible exact LeO.none _)
   | (with_reducible refine LeO.ite ?_ ?_)
   | (with_reducible refine LeO.bind ?_ (fun _ => ?_))
   | exact rules_Check.mono _ _ _ _ _ _ _ _
   | exact stopgatelaw05_Ref.mono _ _ _ _ _ _ _ _
   | exact stopgatelaw05_To.mono _ _ _ _ _ _ _ _
   | exact stopgatelaw05_told.mono _
   | exact stopgateref05_Check.mono _ _ _ _ _ _ _ _
   | exact LeO.none _
   | refine LeO.ite ?_ ?_
   | refine LeO.bind ?_ (fun _ => ?_)
def stopgatelaw05_RulesChecks.T2 : Bool × List (List Nat × List Nat) := (true, [([], []), ([0, 0], [0]), ([1], [1]), ([2, 1, 1], [1, 2]), ([3, 3, 1], [1, 3]), ([1], [1]), ([5, 4, 1], [1, 5]), ([4, 6, 1], [1, 4, 6]), ([1, 7], [1, 7]), ([8, 6, 0, 1, 2, 3, 4, 5, 6, 7, 8], [8])])
def stopgatelaw05_RulesChecks.B2 : List Nat := [0, 1, 3, 7, 15, 3, 63, 127, 255, 511]
theorem stopgatelaw05_RulesChecks.tab2 : rtab .any (opsOf Try.f12 2) = stopgatelaw05_RulesChecks.T2 := by kernel_rfl
theorem stopgatelaw05_RulesChecks.bits2 : waitsOk stopgatelaw05_RulesChecks.T2.2 stopgatelaw05_RulesChecks.B2 = true := by kernel_rfl
set_option maxHeartbeats 8000000 in
set_option maxRecDepth 100000 in
theorem stopgatelaw05_RulesChecks.calls (k : Nat) (a0_0 : Int) (a0_1 : Int) (a0_2 : Int) (a0_3 : Int) (A0_4 : Option Addr) (c0_4 : Nat) (l0_4 : List (S176)) (A0_5 : Option Addr) (c0_5 : Nat) (l0_5 : List Int) (A0_6 : Option Addr) (c0_6 : Nat) (l0_6 : List (S145)) (r : Bool) (w : World) (hr0_4 : Kd.C k176 w A0_4 l0_4.length l0_4) (hc0_4 : l0_4.length ≤ c0_4) (hr0_5 : Kd.C (Kd.int .i64) w A0_5 l0_5.length l0_5) (hc0_5 : l0_5.length ≤ c0_5) (hr0_6 : Kd.C k145 w A0_6 l0_6.length l0_6) (hc0_6 : l0_6.length ≤ c0_6) (h : stopgatelaw05_RulesChecks.f k a0_0 a0_1 a0_2 a0_3 l0_4 l0_5 l0_6 = some r) :
  Calls Try.prog 12 #[.agg #[.int .i64 a0_0, .int .i64 a0_1, .int .i64 a0_2, .int .i64 a0_3, .slice A0_4 l0_4.length c0_4, .slice A0_5 l0_5.length c0_5, .slice A0_6 l0_6.length c0_6]] w fun e w' => e = .returned (.bool r) ∧ Below w.heap.size w w' := by
 have hu78 := Try.underlying78
 have hu81 := Try.underlying81
 have HR0_4 := Aside0.mk hr0_4
 have HC0_4 := Aside0.mk hc0_4
 clear hr0_4 hc0_4
 have HR0_5 := Aside0.mk hr0_5
 have HC0_5 := Aside0.mk hc0_5
 clear hr0_5 hc0_5
 have HR0_6 := Aside0.mk hr0_6
 have HC0_6 := Aside0.mk hc0_6
 clear hr0_6 hc0_6
 have HB := Aside0.mk (Below.refl w.heap.size w)
 have H : ((stopgatelaw05_few.f a0_0 a0_1 a0_2 a0_3 l0_4 l0_5 l0_6).bind fun bt309 => ((stopgatelaw05_Ref.f k bt309.1 bt309.2.1 bt309.2.2.1 bt309.2.2.2.1 bt309.2.2.2.2.1 bt309.2.2.2.2.2.1 bt309.2.2.2.2.2.2).bind fun bt322 => ((stopgatelaw05_told.f k).bind fun t336 => (if t336 = true then ((stopgatelaw05_To.f k bt322.1 bt322.2.1 bt322.2.2.1 bt322.2.2.2.1 bt322.2.2.2.2.1 bt322.2.2.2.2.2.1 bt322.2.2.2.2.2.2).bind fun bt337 => ((rules_Check.f k bt337.1 bt337.2.1 bt337.2.2.1 bt337.2.2.2.1 bt337.2.2.2.2.1 bt337.2.2.2.2.2.1 bt337.2.2.2.2.2.2).bind fun t350 => ((stopgateref05_Check.f k bt322.1 bt322.2.1 bt322.2.2.1 bt322.2.2.2.1 bt322.2.2.2.2.1 bt322.2.2.2.2.2.1 bt322.2.2.2.2.2.2).bind fun t351 => (some (t350 == t351))))) else (none))))) = some r := h
 clear h
 replace H := Option.bind_eq_some_iff.mp H
 obtain ⟨⟨t309, t310, t311, t312, t313, t316, t319⟩, A20, H⟩ := H
 replace H : ((stopgatelaw05_Ref.f k t309 t310 t311 t312 t313 t316 t319).bind fun bt322 => ((stopgatelaw05_told.f k).bind fun t336 => (if t336 = true then ((stopgatelaw05_To.f k bt322.1 bt322.2.1 bt322.2.2.1 bt322.2.2.2.1 bt322.2.2.2.2.1 bt322.2.2.2.2.2.1 bt322.2.2.2.2.2.2).bind fun bt337 => ((rules_Check.f k bt337.1 bt337.2.1 bt337.2.2.1 bt337.2.2.2.1 bt337.2.2.2.2.1 bt337.2.2.2.2.2.1 bt337.2.2.2.2.2.2).bind fun t350 => ((stopgateref05_Check.f k bt322.1 bt322.2.1 bt322.2.2.1 bt322.2.2.2.1 bt322.2.2.2.2.1 bt322.2.2.2.2.2.1 bt322.2.2.2.2.2.2).bind fun t351 => (some (t350 == t351))))) else (none)))) = some r := H
 have A2 := Aside0.mk A20
 clear A20
 replace H := Option.bind_eq_some_iff.mp H
 obtain ⟨⟨t322, t323, t324, t325, t326, t329, t332⟩, A30, H⟩ := H
 replace H : ((stopgatelaw05_told.f k).bind fun t336 => (if t336 = true then ((stopgatelaw05_To.f k t322 t323 t324 t325 t326 t329 t332).bind fun bt337 => ((rules_Check.f k bt337.1 bt337.2.1 bt337.2.2.1 bt337.2.2.2.1 bt337.2.2.2.2.1 bt337.2.2.2.2.2.1 bt337.2.2.2.2.2.2).bind fun t350 => ((stopgateref05_Check.f k t322 t323 t324 t325 t326 t329 t332).bind fun t351 => (some (t350 == t351))))) else (none))) = some r := H
 have A3 := Aside0.mk A30
 clear A30
 replace H := Option.bind_eq_some_iff.mp H
 obtain ⟨t336, A40, H⟩ := H
 replace H : (if t336 = true then ((stopgatelaw05_To.f k t322 t323 t324 t325 t326 t329 t332).bind fun bt337 => ((rules_Check.f k bt337.1 bt337.2.1 bt337.2.2.1 bt337.2.2.2.1 bt337.2.2.2.2.1 bt337.2.2.2.2.2.1 bt337.2.2.2.2.2.2).bind fun t350 => ((stopgateref05_Check.f k t322 t323 t324 t325 t326 t329 t332).bind fun t351 => (some (t350 == t351))))) else (none)) = some r := H
 have A4 := Aside0.mk A40
 clear A40
 by_cases c5 : t336 = true
 ·subst c5
  have H1 : ((stopgatelaw05_To.f k t322 t323 t324 t325 t326 t329 t332).bind fun bt337 => ((rules_Check.f k bt337.1 bt337.2.1 bt337.2.2.1 bt337.2.2.2.1 bt337.2.2.2.2.1 bt337.2.2.2.2.2.1 bt337.2.2.2.2.2.2).bind fun t350 => ((stopgateref05_Check.f k t322 t323 t324 t325 t326 t329 t332).bind fun t351 => (some (t350 == t351))))) = some r := by rw [if_pos rfl] at H; exact H
  clear H
  have H := H1
  clear H1
  replace H := Option.bind_eq_some_iff.mp H
  obtain ⟨⟨t337, t338, t339, t340, t341, t344, t347⟩, A60, H⟩ := H
  replace H : ((rules_Check.f k t337 t338 t339 t340 t341 t344 t347).bind fun t350 => ((stopgateref05_Check.f k t322 t323 t324 t325 t326 t329 t332).bind fun t351 => (some (t350 == t351)))) = some r := H
  have A6 := Aside0.mk A60
  clear A60
  replace H := Option.bind_eq_some_iff.mp H
  obtain ⟨t350, A70, H⟩ := H
  replace H : ((stopgateref05_Check.f k t322 t323 t324 t325 t326 t329 t332).bind fun t351 => (some (t350 == t351))) = some r := H
  have A7 := Aside0.mk A70
  clear A70
  replace H := Option.bind_eq_some_iff.mp H
  obtain ⟨t351, A80, H⟩ := H
  replace H : (some (t350 == t351)) = some r := H
  have A8 := Aside0.mk A80
  clear A80
  obtain rfl := Option.some.inj H
  go_enter Try.func12, Try.ntmps12
  try go_wp2_with (first | ((with_reducible refine gate_dst (N := 1) rfl ?_); refine box_event ?hg (N := 1) ?hd (cs := #[.int .i64 a0_0, .int .i64 a0_1, .int .i64 a0_2, .int .i64 a0_3, .slice A0_4 l0_4.length c0_4, .slice A0_5 l0_5.length c0_5, .slice A0_6 l0_6.length c0_6]) (t := 78) ?hr ?_; (case hd => rfl); (case hg => rfl); (case hr => first | (go_simp; done) | (go_simp; rfl)); intro gb308 hg w9 hbox hb; have n0_ := Aside0.mk (below_step (by repeat (first | (with_reducible first | exact HB.out | apply below_alloc | apply pw_below_drewN | apply below_drew1) | exact HB.out)) hb); have n1_ := Aside0.mk (hbox); have n2_ := Aside0.mk ((by rw [hg]; exact (below_size (by repeat (first | (with_reducible first | exact HB.out | apply below_alloc | apply pw_below_drewN | apply below_drew1) | exact HB.out))) : w.heap.size ≤ gb308)); have n3_ := Aside0.mk ((by rw [hg]; exact (below_size (by repeat (first | (with_reducible first | exact HB.out | apply below_alloc | apply pw_below_drewN | apply below_drew1) | exact HB.out))) : w.heap.size ≤ gb308)); clear HB; have HB := n0_; have BK308 := n1_; have GW308 := n2_; have GE308 := n3_; clear n0_ n1_ n2_ n3_; clear hb hbox hg; obtain ⟨hcz10_0, hcz10_1, hcz10_2, hcz10_3, hcz10_4, hcz10_5, hcz10_6, hfz10_0, hfz10_1, hfz10_2, hfz10_3, hfz10_4, hfz10_5, hfz10_6⟩ := blk_all7 BK308.out) | ((with_reducible refine gate_callee (f := 49) rfl ?_); refine goesL_ (some 5) rfl rfl Try.func49 (by kernel_rfl) rfl #[.agg #[.int .i64 a0_0, .int .i64 a0_1, .int .i64 a0_2, .int .i64 a0_3, .slice A0_4 l0_4.length c0_4, .slice A0_5 l0_5.length c0_5, .slice A0_6 l0_6.length c0_6]] rfl (by (try simp only [List.map_toArray, List.map_cons, List.map_nil]); first | done | rfl | (simp only [List.length_drop, List.length_take]; rfl)) ?_; (with_reducible refine (stopgatelaw05_few.calls a0_0 a0_1 a0_2 a0_3 (fun k_ => k_ < w.heap.size) _ _ l0_4 (fun k_ => k_ < w.heap.size) _ _ l0_5 (fun k_ => k_ < w.heap.size) _ _ l0_6 t309 t310 t311 t312 t313 t316 t319 _ ?side1 ?side2 ?side3 A2.out).mono ?_); (case side1 => exact Kd.V_mk HC0_4.out (Kd.F_below (Kd.C_F k176_heap HR0_4.out) (by repeat (first | (with_reducible first | exact HB.out | apply below_alloc | apply pw_below_drewN | apply below_drew1 | refine below_set ?_ GE308.out) | exact HB.out)))); (case side2 => exact Kd.V_mk HC0_5.out (Kd.F_below (Kd.C_F (Kd.heap_int .i64) HR0_5.out) (by repeat (first | (with_reducible first | exact HB.out | apply below_alloc | apply pw_below_drewN | apply below_drew1 | refine below_set ?_ GE308.out) | exact HB.out)))); (case side3 => exact Kd.V_mk HC0_6.out (Kd.F_below (Kd.C_F k145_heap HR0_6.out) (by repeat (first | (with_reducible first | exact HB.out | apply below_alloc | apply pw_below_drewN | apply below_drew1 | refine below_set ?_ GE308.out) | exact HB.out)))); rintro e w11 ⟨v314, v317, v320, rfl, ho0, ho1, ho2, hb⟩; refine ⟨_, rfl, ?_⟩; have n0_ := Aside0.mk (Kd.V_lower (Kd.V_mono (ok' := fun k_ => k_ ≠ gb308) ho0 (fun k_ hk_ => Or.elim hk_ (fun hs_ => Or.elim hs_ (fun hs_ => fun e_ => Nat.not_le.2 hs_ (by rw [e_]; exact GW308.out)) (fun hs_ => Or.elim hs_ (fun hs_ => fun e_ => Nat.not_le.2 hs_ (by rw [e_]; exact GW308.out)) (fun hs_ => fun e_ => Nat.not_le.2 hs_ (by rw [e_]; exact GW308.out)))) (fun hn_ => (Kd.freshB (g := gb308) (o := .cells #[.int .i64 a0_0, .int .i64 a0_1, .int .i64 a0_2, .int .i64 a0_3, .slice A0_4 l0_4.length c0_4, .slice A0_5 l0_5.length c0_5, .slice A0_6 l0_6.length c0_6] 78 (0, 0)) (by (with_reducible repeat (first | refine blk_drewN ?_ _ | refine blk_drew ?_ | refine blk_alloc ?_ _)); exact BK308.out) k_ hn_)))) (below_size (by repeat (first | (with_reducible first | exact HB.out | apply below_alloc | apply pw_below_drewN | apply below_drew1 | refine below_set ?_ GE308.out) | exact HB.out)))); have n1_ := Aside0.mk (Kd.V_lower (Kd.V_mono (ok' := fun k_ => k_ ≠ gb308) ho1 (fun k_ hk_ => Or.elim hk_ (fun hs_ => Or.elim hs_ (fun hs_ => fun e_ => Nat.not_le.2 hs_ (by rw [e_]; exact GW308.out)) (fun hs_ => Or.elim hs_ (fun hs_ => fun e_ => Nat.not_le.2 hs_ (by rw [e_]; exact GW308.out)) (fun hs_ => fun e_ => Nat.not_le.2 hs_ (by rw [e_]; exact GW308.out)))) (fun hn_ => (Kd.freshB (g := gb308) (o := .cells #[.int .i64 a0_0, .int .i64 a0_1, .int .i64 a0_2, .int .i64 a0_3, .slice A0_4 l0_4.length c0_4, .slice A0_5 l0_5.length c0_5, .slice A0_6 l0_6.length c0_6] 78 (0, 0)) (by (with_reducible repeat (first | refine blk_drewN ?_ _ | refine blk_drew ?_ | refine blk_alloc ?_ _)); exact BK308.out) k_ hn_)))) (below_size (by repeat (first | (with_reducible first | exact HB.out | apply below_alloc | apply pw_below_drewN | apply below_drew1 | refine below_set ?_ GE308.out) | exact HB.out)))); have n2_ := Aside0.mk (Kd.V_lower (Kd.V_mono (ok' := fun k_ => k_ ≠ gb308) ho2 (fun k_ hk_ => Or.elim hk_ (fun hs_ => Or.elim hs_ (fun hs_ => fun e_ => Nat.not_le.2 hs_ (by rw [e_]; exact GW308.out)) (fun hs_ => Or.elim hs_ (fun hs_ => fun e_ => Nat.not_le.2 hs_ (by rw [e_]; exact GW308.out)) (fun hs_ => fun e_ => Nat.not_le.2 hs_ (by rw [e_]; exact GW308.out)))) (fun hn_ => (Kd.freshB (g := gb308) (o := .cells #[.int .i64 a0_0, .int .i64 a0_1, .int .i64 a0_2, .int .i64 a0_3, .slice A0_4 l0_4.length c0_4, .slice A0_5 l0_5.length c0_5, .slice A0_6 l0_6.length c0_6] 78 (0, 0)) (by (with_reducible repeat (first | refine blk_drewN ?_ _ | refine blk_drew ?_ | refine blk_alloc ?_ _)); exact BK308.out) k_ hn_)))) (below_size (by repeat (first | (with_reducible first | exact HB.out | apply below_alloc | apply pw_below_drewN | apply below_drew1 | refine below_set ?_ GE308.out) | exact HB.out)))); have n3_ := Aside0.mk (blk_below (g := gb308) (o := .cells #[.int .i64 a0_0, .int .i64 a0_1, .int .i64 a0_2, .int .i64 a0_3, .slice A0_4 l0_4.length c0_4, .slice A0_5 l0_5.length c0_5, .slice A0_6 l0_6.length c0_6] 78 (0, 0)) (by (with_reducible repeat (first | refine blk_drewN ?_ _ | refine blk_drew ?_ | refine blk_alloc ?_ _)); exact BK308.out) hb); have n4_ := Aside0.mk (below_step (by repeat (first | (with_reducible first | exact HB.out | apply below_alloc | apply pw_below_drewN | apply below_drew1 | refine below_set ?_ GE308.out) | exact HB.out)) hb); clear BK308; clear HB; have HO315 := n0_; have HO318 := n1_; have HO321 := n2_; have BK308 := n3_; have HB := n4_; clear n0_ n1_ n2_ n3_ n4_; (try clear hb); (try clear hb2); (try clear hk); (try clear hi); (try clear ho0); (try clear ho1); (try clear ho2); obtain ⟨Ao12, co12, eo12⟩ := Kd.V_slice HO315.out; subst eo12; obtain ⟨Ao13, co13, eo13⟩ := Kd.V_slice HO318.out; subst eo13; obtain ⟨Ao14, co14, eo14⟩ := Kd.V_slice HO321.out; subst eo14) | ((with_reducible refine gate_callee (f := 41) rfl ?_); refine goesL_ (some 6) rfl rfl Try.func41 (by kernel_rfl) rfl #[.agg #[.int .i64 t309, .int .i64 t310, .int .i64 t311, .int .i64 t312, .slice Ao12 t313.length co12, .slice Ao13 t316.length co13, .slice Ao14 t319.length co14]] rfl (by (try simp only [List.map_toArray, List.map_cons, List.map_nil]); first | done | rfl | (simp only [List.length_drop, List.length_take]; rfl)) ?_; (with_reducible refine (stopgatelaw05_Ref.calls k t309 t310 t311 t312 (fun k_ => k_ ≠ gb308) _ _ t313 (fun k_ => k_ ≠ gb308) _ _ t316 _ _ t319 t322 t323 t324 t325 t326 t329 t332 _ ?side1 ?side2 ?side3 ?side4 A3.out).mono ?_); (case side1 => exact HO315.out); (case side2 => exact HO318.out); (case side3 => repeat (first | exact (Kd.V_reads' HO321.out).2.2 | (with_reducible refine Kd.C_alloc ?_ _) | (with_reducible refine Kd.C_drewN ?_ _) | (with_reducible refine Kd.C_drew ?_))); (case side4 => exact (Kd.V_reads' HO321.out).2.1); rintro e w15 ⟨v327, v330, v333, rfl, ho0, ho1, ho2, hb⟩; refine ⟨_, rfl, ?_⟩; have n0_ := Aside0.mk (Kd.V_elder' (by (with_reducible repeat (first | apply Kd.V_alloc | apply Kd.V_drewN | apply Kd.V_drew)); exact HO315.out) (Kd.R_base ho2) hb); have n1_ := Aside0.mk (Kd.V_elder' (by (with_reducible repeat (first | apply Kd.V_alloc | apply Kd.V_drewN | apply Kd.V_drew)); exact HO318.out) (Kd.R_base ho2) hb); have n2_ := Aside0.mk (Kd.V_elder' (by (with_reducible repeat (first | apply Kd.V_alloc | apply Kd.V_drewN | apply Kd.V_drew)); exact HO321.out) (Kd.R_base ho2) hb); have n3_ := Aside0.mk (Kd.V_lower (Kd.V_mono (ok' := fun k_ => some k_ ≠ (v333 : Value).ownBlock ∧ k_ ≠ gb308) ho0 (fun k_ hk_ => ⟨hk_.2, Or.elim hk_.1 (fun hs_ => Or.elim hs_ (fun hs_ => hs_) (fun hs_ => hs_)) (fun hn_ => (Kd.freshB (g := gb308) (o := .cells #[.int .i64 a0_0, .int .i64 a0_1, .int .i64 a0_2, .int .i64 a0_3, .slice A0_4 l0_4.length c0_4, .slice A0_5 l0_5.length c0_5, .slice A0_6 l0_6.length c0_6] 78 (0, 0)) (by (with_reducible repeat (first | refine blk_drewN ?_ _ | refine blk_drew ?_ | refine blk_alloc ?_ _)); exact BK308.out) k_ hn_))⟩)) (below_size (by repeat (first | (with_reducible first | exact HB.out | apply below_alloc | apply pw_below_drewN | apply below_drew1 | refine below_set ?_ GE308.out) | exact HB.out)))); have n4_ := Aside0.mk (Kd.V_lower (Kd.V_mono (ok' := fun k_ => some k_ ≠ (v333 : Value).ownBlock ∧ k_ ≠ gb308) ho1 (fun k_ hk_ => ⟨hk_.2, Or.elim hk_.1 (fun hs_ => Or.elim hs_ (fun hs_ => hs_) (fun hs_ => hs_)) (fun hn_ => (Kd.freshB (g := gb308) (o := .cells #[.int .i64 a0_0, .int .i64 a0_1, .int .i64 a0_2, .int .i64 a0_3, .slice A0_4 l0_4.length c0_4, .slice A0_5 l0_5.length c0_5, .slice A0_6 l0_6.length c0_6] 78 (0, 0)) (by (with_reducible repeat (first | refine blk_drewN ?_ _ | refine blk_drew ?_ | refine blk_alloc ?_ _)); exact BK308.out) k_ hn_))⟩)) (below_size (by repeat (first | (with_reducible first | exact HB.out | apply below_alloc | apply pw_below_drewN | apply below_drew1 | refine below_set ?_ GE308.out) | exact HB.out)))); have n5_ := Aside0.mk (Kd.R_lower (Kd.R_mono (ok' := fun k_ => True) ho2 (fun _ hk_ => trivial)) (below_size (by repeat (first | (with_reducible first | exact HB.out | apply below_alloc | apply pw_below_drewN | apply below_drew1 | refine below_set ?_ GE308.out) | exact HB.out)))); have n6_ := Aside0.mk (blk_below (g := gb308) (o := .cells #[.int .i64 a0_0, .int .i64 a0_1, .int .i64 a0_2, .int .i64 a0_3, .slice A0_4 l0_4.length c0_4, .slice A0_5 l0_5.length c0_5, .slice A0_6 l0_6.length c0_6] 78 (0, 0)) (by (with_reducible repeat (first | refine blk_drewN ?_ _ | refine blk_drew ?_ | refine blk_alloc ?_ _)); exact BK308.out) hb); have n7_ := Aside0.mk (below_step (by repeat (first | (with_reducible first | exact HB.out | apply below_alloc | apply pw_below_drewN | apply below_drew1 | refine below_set ?_ GE308.out) | exact HB.out)) hb); clear HO315; clear HO318; clear HO321; clear BK308; clear HB; have HO315 := n0_; have HO318 := n1_; have HO321 := n2_; have HO328 := n3_; have HO331 := n4_; have HO334 := n5_; have BK308 := n6_; have HB := n7_; clear n0_ n1_ n2_ n3_ n4_ n5_ n6_ n7_; (try clear hb); (try clear hb2); (try clear hk); (try clear hi); (try clear ho0); (try clear ho1); (try clear ho2)) | ((with_reducible refine gate_dst (N := 3) rfl ?_); refine box_event ?hg (N := 3) ?hd (cs := #[.int .i64 0, .int .i64 0, .int .i64 0, .int .i64 0, .slice none 0 0, .slice none 0 0, .slice none 0 0]) (t := 81) ?hr ?_; (case hd => rfl); (case hg => rfl); (case hr => first | (go_simp; done) | (go_simp; rfl)); intro gb335 hg w16 hbox hb; have n0_ := Aside0.mk (Kd.V_below (Kd.V_elderB (by (with_reducible repeat (first | apply Kd.V_alloc | apply Kd.V_drewN | apply Kd.V_drew)); exact HO315.out) gb335 (Nat.le_of_eq hg.symm)) hb); have n1_ := Aside0.mk (Kd.V_below (Kd.V_elderB (by (with_reducible repeat (first | apply Kd.V_alloc | apply Kd.V_drewN | apply Kd.V_drew)); exact HO318.out) gb335 (Nat.le_of_eq hg.symm)) hb); have n2_ := Aside0.mk (Kd.V_below (Kd.V_elderB (by (with_reducible repeat (first | apply Kd.V_alloc | apply Kd.V_drewN | apply Kd.V_drew)); exact HO321.out) gb335 (Nat.le_of_eq hg.symm)) hb); have n3_ := Aside0.mk (Kd.V_below (Kd.V_elderB (by (with_reducible repeat (first | apply Kd.V_alloc | apply Kd.V_drewN | apply Kd.V_drew)); exact HO328.out) gb335 (Nat.le_of_eq hg.symm)) hb); have n4_ := Aside0.mk (Kd.V_below (Kd.V_elderB (by (with_reducible repeat (first | apply Kd.V_alloc | apply Kd.V_drewN | apply Kd.V_drew)); exact HO331.out) gb335 (Nat.le_of_eq hg.symm)) hb); have n5_ := Aside0.mk (Kd.R_below (by (with_reducible repeat (first | apply Kd.R_alloc | apply Kd.R_drewN | apply Kd.R_drew)); exact HO334.out) hb); have n6_ := Aside0.mk (blk_below (g := gb308) (o := .cells #[.int .i64 a0_0, .int .i64 a0_1, .int .i64 a0_2, .int .i64 a0_3, .slice A0_4 l0_4.length c0_4, .slice A0_5 l0_5.length c0_5, .slice A0_6 l0_6.length c0_6] 78 (0, 0)) (by (with_reducible repeat (first | refine blk_drewN ?_ _ | refine blk_drew ?_ | refine blk_alloc ?_ _)); exact BK308.out) hb); have n7_ := Aside0.mk (below_step (by repeat (first | (with_reducible first | exact HB.out | apply below_alloc | apply pw_below_drewN | apply below_drew1 | refine below_set ?_ GE308.out) | exact HB.out)) hb); have n8_ := Aside0.mk (hbox); have n9_ := Aside0.mk ((by rw [hg]; exact (below_size (by repeat (first | (with_reducible first | exact HB.out | apply below_alloc | apply pw_below_drewN | apply below_drew1 | refine below_set ?_ GE308.out) | exact HB.out))) : w.heap.size ≤ gb335)); have n10_ := Aside0.mk ((by rw [hg]; exact (below_size (by repeat (first | (with_reducible first | exact HB.out | apply below_alloc | apply pw_below_drewN | apply below_drew1 | refine below_set ?_ GE308.out) | exact HB.out))) : w.heap.size ≤ gb335)); have n11_ := Aside0.mk ((by rw [hg]; exact Nat.ne_of_lt (blk_lt (g := gb308) (o := .cells #[.int .i64 a0_0, .int .i64 a0_1, .int .i64 a0_2, .int .i64 a0_3, .slice A0_4 l0_4.length c0_4, .slice A0_5 l0_5.length c0_5, .slice A0_6 l0_6.length c0_6] 78 (0, 0)) (by (with_reducible repeat (first | refine blk_drewN ?_ _ | refine blk_drew ?_ | refine blk_alloc ?_ _)); exact BK308.out)) : gb308 ≠ gb335)); have n12_ := Aside0.mk ((by rw [hg]; exact Nat.ne_of_gt (blk_lt (g := gb308) (o := .cells #[.int .i64 a0_0, .int .i64 a0_1, .int .i64 a0_2, .int .i64 a0_3, .slice A0_4 l0_4.length c0_4, .slice A0_5 l0_5.length c0_5, .slice A0_6 l0_6.length c0_6] 78 (0, 0)) (by (with_reducible repeat (first | refine blk_drewN ?_ _ | refine blk_drew ?_ | refine blk_alloc ?_ _)); exact BK308.out)) : gb335 ≠ gb308)); clear HO315; clear HO318; clear HO321; clear HO328; clear HO331; clear HO334; clear BK308; clear HB; have HO315 := n0_; have HO318 := n1_; have HO321 := n2_; have HO328 := n3_; have HO331 := n4_; have HO334 := n5_; have BK308 := n6_; have HB := n7_; have BK335 := n8_; have GW335 := n9_; have GE335 := n10_; have NB308_335 := n11_; have NB335_308 := n12_; clear n0_ n1_ n2_ n3_ n4_ n5_ n6_ n7_ n8_ n9_ n10_ n11_ n12_; clear hb hbox hg; have hnb17 := NB335_308.out; have hnc17 := NB308_335.out; obtain ⟨hcz18_0, hcz18_1, hcz18_2, hcz18_3, hcz18_4, hcz18_5, hcz18_6, hfz18_0, hfz18_1, hfz18_2, hfz18_3, hfz18_4, hfz18_5, hfz18_6⟩ := blk_all7 BK335.out; obtain ⟨Ao19, co19, eo19⟩ := Kd.V_slice HO328.out; subst eo19; obtain ⟨Ao20, co20, eo20⟩ := Kd.V_slice HO331.out; subst eo20; obtain ⟨Ao21, co21, eo21⟩ := Kd.R_slice HO334.out; subst eo21))
  have n0_ : Aside0 (Kd.V k176 176 (((((((w16.setCell ⟨gb335, 0, none⟩ (.int .i64 t322)).setCell ⟨gb335, 1, none⟩ (.int .i64 t323)).setCell ⟨gb335, 2, none⟩ (.int .i64 t324)).setCell ⟨gb335, 3, none⟩ (.int .i64 t325)).setCell ⟨gb335, 4, none⟩ (.slice Ao19 t326.length co19)).setCell ⟨gb335, 5, none⟩ (.slice Ao20 t329.length co20)).setCell ⟨gb335, 6, none⟩ (.slice Ao21 t332.length co21)) w.heap.size (fun k_ => some k_ ≠ (.slice Ao21 t332.length co21 : Value).ownBlock ∧ k_ ≠ gb308 ∧ k_ ≠ gb335) (.slice Ao12 t313.length co12) t313) := ⟨by (with_reducible repeat (first | apply Kd.V_alloc | apply Kd.V_drewN | apply Kd.V_drew)); exact Kd.V_mono (Kd.V_far (p := ⟨gb335, 6, none⟩) (Kd.V_far (p := ⟨gb335, 5, none⟩) (Kd.V_far (p := ⟨gb335, 4, none⟩) (Kd.V_far (p := ⟨gb335, 3, none⟩) (Kd.V_far (p := ⟨gb335, 2, none⟩) (Kd.V_far (p := ⟨gb335, 1, none⟩) (Kd.V_far (p := ⟨gb335, 0, none⟩) (Kd.V_mono HO315.out (fun k_ hk => (⟨hk, hk.2⟩ : _ ∧ k_ ≠ gb335))) (fun _ hk => hk.2) (.int .i64 t322)) (fun _ hk => hk.2) (.int .i64 t323)) (fun _ hk => hk.2) (.int .i64 t324)) (fun _ hk => hk.2) (.int .i64 t325)) (fun _ hk => hk.2) (.slice Ao19 t326.length co19)) (fun _ hk => hk.2) (.slice Ao20 t329.length co20)) (fun _ hk => hk.2) (.slice Ao21 t332.length co21)) (fun _ hk => ⟨hk.1.1.2, ⟨hk.1.1.1, hk.1.2⟩⟩)⟩
  have n1_ : Aside0 (Kd.V (Kd.int .i64) 3 (((((((w16.setCell ⟨gb335, 0, none⟩ (.int .i64 t322)).setCell ⟨gb335, 1, none⟩ (.int .i64 t323)).setCell ⟨gb335, 2, none⟩ (.int .i64 t324)).setCell ⟨gb335, 3, none⟩ (.int .i64 t325)).setCell ⟨gb335, 4, none⟩ (.slice Ao19 t326.length co19)).setCell ⟨gb335, 5, none⟩ (.slice Ao20 t329.length co20)).setCell ⟨gb335, 6, none⟩ (.slice Ao21 t332.length co21)) w.heap.size (fun k_ => some k_ ≠ (.slice Ao21 t332.length co21 : Value).ownBlock ∧ k_ ≠ gb308 ∧ k_ ≠ gb335) (.slice Ao13 t316.length co13) t316) := ⟨by (with_reducible repeat (first | apply Kd.V_alloc | apply Kd.V_drewN | apply Kd.V_drew)); exact Kd.V_mono (Kd.V_far (p := ⟨gb335, 6, none⟩) (Kd.V_far (p := ⟨gb335, 5, none⟩) (Kd.V_far (p := ⟨gb335, 4, none⟩) (Kd.V_far (p := ⟨gb335, 3, none⟩) (Kd.V_far (p := ⟨gb335, 2, none⟩) (Kd.V_far (p := ⟨gb335, 1, none⟩) (Kd.V_far (p := ⟨gb335, 0, none⟩) (Kd.V_mono HO318.out (fun k_ hk => (⟨hk, hk.2⟩ : _ ∧ k_ ≠ gb335))) (fun _ hk => hk.2) (.int .i64 t322)) (fun _ hk => hk.2) (.int .i64 t323)) (fun _ hk => hk.2) (.int .i64 t324)) (fun _ hk => hk.2) (.int .i64 t325)) (fun _ hk => hk.2) (.slice Ao19 t326.length co19)) (fun _ hk => hk.2) (.slice Ao20 t329.length co20)) (fun _ hk => hk.2) (.slice Ao21 t332.length co21)) (fun _ hk => ⟨hk.1.1.2, ⟨hk.1.1.1, hk.1.2⟩⟩)⟩
  have n2_ : Aside0 (Kd.V k145 145 (((((((w16.setCell ⟨gb335, 0, none⟩ (.int .i64 t322)).setCell ⟨gb335, 1, none⟩ (.int .i64 t323)).setCell ⟨gb335, 2, none⟩ (.int .i64 t324)).setCell ⟨gb335, 3, none⟩ (.int .i64 t325)).setCell ⟨gb335, 4, none⟩ (.slice Ao19 t326.length co19)).setCell ⟨gb335, 5, none⟩ (.slice Ao20 t329.length co20)).setCell ⟨gb335, 6, none⟩ (.slice Ao21 t332.length co21)) w.heap.size (fun k_ => some k_ ≠ (.slice Ao21 t332.length co21 : Value).ownBlock ∧ k_ ≠ gb308 ∧ k_ ≠ gb335) (.slice Ao14 t319.length co14) t319) := ⟨by (with_reducible repeat (first | apply Kd.V_alloc | apply Kd.V_drewN | apply Kd.V_drew)); exact Kd.V_mono (Kd.V_far (p := ⟨gb335, 6, none⟩) (Kd.V_far (p := ⟨gb335, 5, none⟩) (Kd.V_far (p := ⟨gb335, 4, none⟩) (Kd.V_far (p := ⟨gb335, 3, none⟩) (Kd.V_far (p := ⟨gb335, 2, none⟩) (Kd.V_far (p := ⟨gb335, 1, none⟩) (Kd.V_far (p := ⟨gb335, 0, none⟩) (Kd.V_mono HO321.out (fun k_ hk => (⟨hk, hk.2⟩ : _ ∧ k_ ≠ gb335))) (fun _ hk => hk.2) (.int .i64 t322)) (fun _ hk => hk.2) (.int .i64 t323)) (fun _ hk => hk.2) (.int .i64 t324)) (fun _ hk => hk.2) (.int .i64 t325)) (fun _ hk => hk.2) (.slice Ao19 t326.length co19)) (fun _ hk => hk.2) (.slice Ao20 t329.length co20)) (fun _ hk => hk.2) (.slice Ao21 t332.length co21)) (fun _ hk => ⟨hk.1.1.2, ⟨hk.1.1.1, hk.1.2⟩⟩)⟩
  have n3_ : Aside0 (Kd.V k176 176 (((((((w16.setCell ⟨gb335, 0, none⟩ (.int .i64 t322)).setCell ⟨gb335, 1, none⟩ (.int .i64 t323)).setCell ⟨gb335, 2, none⟩ (.int .i64 t324)).setCell ⟨gb335, 3, none⟩ (.int .i64 t325)).setCell ⟨gb335, 4, none⟩ (.slice Ao19 t326.length co19)).setCell ⟨gb335, 5, none⟩ (.slice Ao20 t329.length co20)).setCell ⟨gb335, 6, none⟩ (.slice Ao21 t332.length co21)) w.heap.size (fun k_ => some k_ ≠ (.slice Ao21 t332.length co21 : Value).ownBlock ∧ k_ ≠ gb308 ∧ k_ ≠ gb335) (.slice Ao19 t326.length co19) t326) := ⟨by (with_reducible repeat (first | apply Kd.V_alloc | apply Kd.V_drewN | apply Kd.V_drew)); exact Kd.V_mono (Kd.V_far (p := ⟨gb335, 6, none⟩) (Kd.V_far (p := ⟨gb335, 5, none⟩) (Kd.V_far (p := ⟨gb335, 4, none⟩) (Kd.V_far (p := ⟨gb335, 3, none⟩) (Kd.V_far (p := ⟨gb335, 2, none⟩) (Kd.V_far (p := ⟨gb335, 1, none⟩) (Kd.V_far (p := ⟨gb335, 0, none⟩) (Kd.V_mono HO328.out (fun k_ hk => (⟨hk, hk.2⟩ : _ ∧ k_ ≠ gb335))) (fun _ hk => hk.2) (.int .i64 t322)) (fun _ hk => hk.2) (.int .i64 t323)) (fun _ hk => hk.2) (.int .i64 t324)) (fun _ hk => hk.2) (.int .i64 t325)) (fun _ hk => hk.2) (.slice Ao19 t326.length co19)) (fun _ hk => hk.2) (.slice Ao20 t329.length co20)) (fun _ hk => hk.2) (.slice Ao21 t332.length co21)) (fun _ hk => ⟨hk.1.1.1, ⟨hk.1.1.2, hk.1.2⟩⟩)⟩
  have n4_ : Aside0 (Kd.V (Kd.int .i64) 3 (((((((w16.setCell ⟨gb335, 0, none⟩ (.int .i64 t322)).setCell ⟨gb335, 1, none⟩ (.int .i64 t323)).setCell ⟨gb335, 2, none⟩ (.int .i64 t324)).setCell ⟨gb335, 3, none⟩ (.int .i64 t325)).setCell ⟨gb335, 4, none⟩ (.slice Ao19 t326.length co19)).setCell ⟨gb335, 5, none⟩ (.slice Ao20 t329.length co20)).setCell ⟨gb335, 6, none⟩ (.slice Ao21 t332.length co21)) w.heap.size (fun k_ => some k_ ≠ (.slice Ao21 t332.length co21 : Value).ownBlock ∧ k_ ≠ gb308 ∧ k_ ≠ gb335) (.slice Ao20 t329.length co20) t329) := ⟨by (with_reducible repeat (first | apply Kd.V_alloc | apply Kd.V_drewN | apply Kd.V_drew)); exact Kd.V_mono (Kd.V_far (p := ⟨gb335, 6, none⟩) (Kd.V_far (p := ⟨gb335, 5, none⟩) (Kd.V_far (p := ⟨gb335, 4, none⟩) (Kd.V_far (p := ⟨gb335, 3, none⟩) (Kd.V_far (p := ⟨gb335, 2, none⟩) (Kd.V_far (p := ⟨gb335, 1, none⟩) (Kd.V_far (p := ⟨gb335, 0, none⟩) (Kd.V_mono HO331.out (fun k_ hk => (⟨hk, hk.2⟩ : _ ∧ k_ ≠ gb335))) (fun _ hk => hk.2) (.int .i64 t322)) (fun _ hk => hk.2) (.int .i64 t323)) (fun _ hk => hk.2) (.int .i64 t324)) (fun _ hk => hk.2) (.int .i64 t325)) (fun _ hk => hk.2) (.slice Ao19 t326.length co19)) (fun _ hk => hk.2) (.slice Ao20 t329.length co20)) (fun _ hk => hk.2) (.slice Ao21 t332.length co21)) (fun _ hk => ⟨hk.1.1.1, ⟨hk.1.1.2, hk.1.2⟩⟩)⟩
  have n5_ : Aside0 (Kd.R k86 86 (((((((w16.setCell ⟨gb335, 0, none⟩ (.int .i64 t322)).setCell ⟨gb335, 1, none⟩ (.int .i64 t323)).setCell ⟨gb335, 2, none⟩ (.int .i64 t324)).setCell ⟨gb335, 3, none⟩ (.int .i64 t325)).setCell ⟨gb335, 4, none⟩ (.slice Ao19 t326.length co19)).setCell ⟨gb335, 5, none⟩ (.slice Ao20 t329.length co20)).setCell ⟨gb335, 6, none⟩ (.slice Ao21 t332.length co21)) w.heap.size (fun _ => True) (.slice Ao21 t332.length co21) t332) := ⟨by (with_reducible repeat (first | apply Kd.R_alloc | apply Kd.R_drewN | apply Kd.R_drew)); exact Kd.R_mono (Kd.R_far (p := ⟨gb335, 6, none⟩) (Kd.R_far (p := ⟨gb335, 5, none⟩) (Kd.R_far (p := ⟨gb335, 4, none⟩) (Kd.R_far (p := ⟨gb335, 3, none⟩) (Kd.R_far (p := ⟨gb335, 2, none⟩) (Kd.R_far (p := ⟨gb335, 1, none⟩) (Kd.R_far (p := ⟨gb335, 0, none⟩) (Kd.R_types HO334.out BK335.out (by decide)) (fun _ hk => hk.2) (.int .i64 t322)) (fun _ hk => hk.2) (.int .i64 t323)) (fun _ hk => hk.2) (.int .i64 t324)) (fun _ hk => hk.2) (.int .i64 t325)) (fun _ hk => hk.2) (.slice Ao19 t326.length co19)) (fun _ hk => hk.2) (.slice Ao20 t329.length co20)) (fun _ hk => hk.2) (.slice Ao21 t332.length co21)) (fun _ hk => trivial)⟩
  have n6_ : Aside0 ((((((((w16.setCell ⟨gb335, 0, none⟩ (.int .i64 t322)).setCell ⟨gb335, 1, none⟩ (.int .i64 t323)).setCell ⟨gb335, 2, none⟩ (.int .i64 t324)).setCell ⟨gb335, 3, none⟩ (.int .i64 t325)).setCell ⟨gb335, 4, none⟩ (.slice Ao19 t326.length co19)).setCell ⟨gb335, 5, none⟩ (.slice Ao20 t329.length co20)).setCell ⟨gb335, 6, none⟩ (.slice Ao21 t332.length co21)).heap[gb308]? = some (.cells #[.int .i64 a0_0, .int .i64 a0_1, .int .i64 a0_2, .int .i64 a0_3, .slice A0_4 l0_4.length c0_4, .slice A0_5 l0_5.length c0_5, .slice A0_6 l0_6.length c0_6] 78 (0, 0))) := ⟨by (with_reducible repeat (first | refine blk_drewN ?_ _ | refine blk_drew ?_ | refine blk_alloc ?_ _)); refine blk_far ?_ NB308_335.out _; (with_reducible repeat (first | refine blk_drewN ?_ _ | refine blk_drew ?_ | refine blk_alloc ?_ _)); refine blk_far ?_ NB308_335.out _; (with_reducible repeat (first | refine blk_drewN ?_ _ | refine blk_drew ?_ | refine blk_alloc ?_ _)); refine blk_far ?_ NB308_335.out _; (with_reducible repeat (first | refine blk_drewN ?_ _ | refine blk_drew ?_ | refine blk_alloc ?_ _)); refine blk_far ?_ NB308_335.out _; (with_reducible repeat (first | refine blk_drewN ?_ _ | refine blk_drew ?_ | refine blk_alloc ?_ _)); refine blk_far ?_ NB308_335.out _; (with_reducible repeat (first | refine blk_drewN ?_ _ | refine blk_drew ?_ | refine blk_alloc ?_ _)); refine blk_far ?_ NB308_335.out _; (with_reducible repeat (first | refine blk_drewN ?_ _ | refine blk_drew ?_ | refine blk_alloc ?_ _)); refine blk_far ?_ NB308_335.out _; (with_reducible repeat (first | refine blk_drewN ?_ _ | refine blk_drew ?_ | refine blk_alloc ?_ _)); exact BK308.out⟩
  have n7_ : Aside0 ((((((((w16.setCell ⟨gb335, 0, none⟩ (.int .i64 t322)).setCell ⟨gb335, 1, none⟩ (.int .i64 t323)).setCell ⟨gb335, 2, none⟩ (.int .i64 t324)).setCell ⟨gb335, 3, none⟩ (.int .i64 t325)).setCell ⟨gb335, 4, none⟩ (.slice Ao19 t326.length co19)).setCell ⟨gb335, 5, none⟩ (.slice Ao20 t329.length co20)).setCell ⟨gb335, 6, none⟩ (.slice Ao21 t332.length co21)).heap[gb335]? = some (.cells #[.int .i64 t322, .int .i64 t323, .int .i64 t324, .int .i64 t325, .slice Ao19 t326.length co19, .slice Ao20 t329.length co20, .slice Ao21 t332.length co21] 81 (0, 0))) := ⟨by (with_reducible repeat (first | refine blk_drewN ?_ _ | refine blk_drew ?_ | refine blk_alloc ?_ _)); refine blk_put (cs := #[.int .i64 t322, .int .i64 t323, .int .i64 t324, .int .i64 t325, .slice Ao19 t326.length co19, .slice Ao20 t329.length co20, .slice none 0 0]) ?_ 6 _ rfl; (with_reducible repeat (first | refine blk_drewN ?_ _ | refine blk_drew ?_ | refine blk_alloc ?_ _)); refine blk_put (cs := #[.int .i64 t322, .int .i64 t323, .int .i64 t324, .int .i64 t325, .slice Ao19 t326.length co19, .slice none 0 0, .slice none 0 0]) ?_ 5 _ rfl; (with_reducible repeat (first | refine blk_drewN ?_ _ | refine blk_drew ?_ | refine blk_alloc ?_ _)); refine blk_put (cs := #[.int .i64 t322, .int .i64 t323, .int .i64 t324, .int .i64 t325, .slice none 0 0, .slice none 0 0, .slice none 0 0]) ?_ 4 _ rfl; (with_reducible repeat (first | refine blk_drewN ?_ _ | refine blk_drew ?_ | refine blk_alloc ?_ _)); refine blk_put (cs := #[.int .i64 t322, .int .i64 t323, .int .i64 t324, .int .i64 0, .slice none 0 0, .slice none 0 0, .slice none 0 0]) ?_ 3 _ rfl; (with_reducible repeat (first | refine blk_drewN ?_ _ | refine blk_drew ?_ | refine blk_alloc ?_ _)); refine blk_put (cs := #[.int .i64 t322, .int .i64 t323, .int .i64 0, .int .i64 0, .slice none 0 0, .slice none 0 0, .slice none 0 0]) ?_ 2 _ rfl; (with_reducible repeat (first | refine blk_drewN ?_ _ | refine blk_drew ?_ | refine blk_alloc ?_ _)); refine blk_put (cs := #[.int .i64 t322, .int .i64 0, .int .i64 0, .int .i64 0, .slice none 0 0, .slice none 0 0, .slice none 0 0]) ?_ 1 _ rfl; (with_reducible repeat (first | refine blk_drewN ?_ _ | refine blk_drew ?_ | refine blk_alloc ?_ _)); refine blk_put (cs := #[.int .i64 0, .int .i64 0, .int .i64 0, .int .i64 0, .slice none 0 0, .slice none 0 0, .slice none 0 0]) ?_ 0 _ rfl; (with_reducible repeat (first | refine blk_drewN ?_ _ | refine blk_drew ?_ | refine blk_alloc ?_ _)); exact BK335.out⟩
  have n8_ : Aside0 (Below w.heap.size w (((((((w16.setCell ⟨gb335, 0, none⟩ (.int .i64 t322)).setCell ⟨gb335, 1, none⟩ (.int .i64 t323)).setCell ⟨gb335, 2, none⟩ (.int .i64 t324)).setCell ⟨gb335, 3, none⟩ (.int .i64 t325)).setCell ⟨gb335, 4, none⟩ (.slice Ao19 t326.length co19)).setCell ⟨gb335, 5, none⟩ (.slice Ao20 t329.length co20)).setCell ⟨gb335, 6, none⟩ (.slice Ao21 t332.length co21))) := ⟨by repeat (first | (with_reducible first | exact HB.out | apply below_alloc | apply pw_below_drewN | apply below_drew1 | refine below_set ?_ GE308.out | refine below_set ?_ GE335.out) | exact HB.out)⟩
  (try clear HO315)
  (try clear HO318)
  (try clear HO321)
  (try clear HO328)
  (try clear HO331)
  (try clear HO334)
  (try clear BK308)
  (try clear BK335)
  (try clear HB)
  generalize (((((((w16.setCell ⟨gb335, 0, none⟩ (.int .i64 t322)).setCell ⟨gb335, 1, none⟩ (.int .i64 t323)).setCell ⟨gb335, 2, none⟩ (.int .i64 t324)).setCell ⟨gb335, 3, none⟩ (.int .i64 t325)).setCell ⟨gb335, 4, none⟩ (.slice Ao19 t326.length co19)).setCell ⟨gb335, 5, none⟩ (.slice Ao20 t329.length co20)).setCell ⟨gb335, 6, none⟩ (.slice Ao21 t332.length co21)) = w22 at n0_ n1_ n2_ n3_ n4_ n5_ n6_ n7_ n8_ ⊢
  have HO315 := n0_
  have HO318 := n1_
  have HO321 := n2_
  have HO328 := n3_
  have HO331 := n4_
  have HO334 := n5_
  have BK308 := n6_
  have BK335 := n7_
  have HB := n8_
  clear n0_ n1_ n2_ n3_ n4_ n5_ n6_ n7_ n8_
  have n0_ := Aside0.mk (Kd.V_drew HO315.out)
  have n1_ := Aside0.mk (Kd.V_drew HO318.out)
  have n2_ := Aside0.mk (Kd.V_drew HO321.out)
  have n3_ := Aside0.mk (Kd.V_drew HO328.out)
  have n4_ := Aside0.mk (Kd.V_drew HO331.out)
  have n5_ := Aside0.mk (Kd.R_drew HO334.out)
  have n6_ := Aside0.mk (blk_drew BK308.out)
  have n7_ := Aside0.mk (blk_drew BK335.out)
  have n8_ := Aside0.mk (below_drew1 HB.out)
  clear HO315
  clear HO318
  clear HO321
  clear HO328
  clear HO331
  clear HO334
  clear BK308
  clear BK335
  clear HB
  have HO315 := n0_
  have HO318 := n1_
  have HO321 := n2_
  have HO328 := n3_
  have HO331 := n4_
  have HO334 := n5_
  have BK308 := n6_
  have BK335 := n7_
  have HB := n8_
  clear n0_ n1_ n2_ n3_ n4_ n5_ n6_ n7_ n8_
  refine start_ (n := 10) (S := fun w' => w'.cell? ⟨gb335, 0, none⟩ = some (.int .i64 t322) ∧ w'.cell? ⟨gb335, 1, none⟩ = some (.int .i64 t323) ∧ w'.cell? ⟨gb335, 2, none⟩ = some (.int .i64 t324) ∧ w'.cell? ⟨gb335, 3, none⟩ = some (.int .i64 t325) ∧ w'.cell? ⟨gb335, 4, none⟩ = some (.slice Ao19 t326.length co19) ∧ w'.cell? ⟨gb335, 5, none⟩ = some (.slice Ao20 t329.length co20) ∧ w'.cell? ⟨gb335, 6, none⟩ = some (.slice Ao21 t332.length co21)) (ds := []) #[false, false, false, false, false, false, false, false, false, false] (by kernel_rfl) rfl rfl ⟨(blk_cell BK335.out 0).trans rfl, (blk_cell BK335.out 1).trans rfl, (blk_cell BK335.out 2).trans rfl, (blk_cell BK335.out 3).trans rfl, (blk_cell BK335.out 4).trans rfl, (blk_cell BK335.out 5).trans rfl, (blk_cell BK335.out 6).trans rfl⟩ (fun hHeld => ?_); refine with_tabW stopgatelaw05_RulesChecks.tab2 stopgatelaw05_RulesChecks.bits2 (fun HT_ HW_ => ?_)
  generalize w22.drew = w23 at HO315 HO318 HO321 HO328 HO331 HO334 BK308 BK335 HB hHeld ⊢
  refine one_ (i := 0) (N := some 7) #[true, false, false, false, false, false, false, false, false, false] rfl rfl (one_of HT_.out (by kernel_rfl)) (by decide) (fun K hK => ?_)
  refine goes_ Try.func50 (by kernel_rfl) rfl #[] (by rfl) rfl rfl (by (try simp only [List.map_toArray, List.map_cons, List.map_nil]); first | done | rfl | (simp only [List.length_drop, List.length_take]; rfl)) ?_
  with_reducible refine (stopgatelaw05_told.calls k  true _ A4.out).mono ?_
  rintro e w24 ⟨rfl, hb⟩
  refine ⟨_, rfl, ?_⟩
  have n0_ := Aside0.mk (Kd.V_below (by (with_reducible repeat (first | apply Kd.V_alloc | apply Kd.V_drewN | apply Kd.V_drew)); exact HO315.out) hb)
  have n1_ := Aside0.mk (Kd.V_below (by (with_reducible repeat (first | apply Kd.V_alloc | apply Kd.V_drewN | apply Kd.V_drew)); exact HO318.out) hb)
  have n2_ := Aside0.mk (Kd.V_below (by (with_reducible repeat (first | apply Kd.V_alloc | apply Kd.V_drewN | apply Kd.V_drew)); exact HO321.out) hb)
  have n3_ := Aside0.mk (Kd.V_below (by (with_reducible repeat (first | apply Kd.V_alloc | apply Kd.V_drewN | apply Kd.V_drew)); exact HO328.out) hb)
  have n4_ := Aside0.mk (Kd.V_below (by (with_reducible repeat (first | apply Kd.V_alloc | apply Kd.V_drewN | apply Kd.V_drew)); exact HO331.out) hb)
  have n5_ := Aside0.mk (Kd.R_below (by (with_reducible repeat (first | apply Kd.R_alloc | apply Kd.R_drewN | apply Kd.R_drew)); exact HO334.out) hb)
  have n6_ := Aside0.mk (blk_below (g := gb308) (o := .cells #[.int .i64 a0_0, .int .i64 a0_1, .int .i64 a0_2, .int .i64 a0_3, .slice A0_4 l0_4.length c0_4, .slice A0_5 l0_5.length c0_5, .slice A0_6 l0_6.length c0_6] 78 (0, 0)) (by (with_reducible repeat (first | refine blk_drewN ?_ _ | refine blk_drew ?_ | refine blk_alloc ?_ _)); exact BK308.out) hb)
  have n7_ := Aside0.mk (blk_below (g := gb335) (o := .cells #[.int .i64 t322, .int .i64 t323, .int .i64 t324, .int .i64 t325, .slice Ao19 t326.length co19, .slice Ao20 t329.length co20, .slice Ao21 t332.length co21] 81 (0, 0)) (by (with_reducible repeat (first | refine blk_drewN ?_ _ | refine blk_drew ?_ | refine blk_alloc ?_ _)); exact BK335.out) hb)
  have n8_ := Aside0.mk (below_step (by repeat (first | (with_reducible first | exact HB.out | apply below_alloc | apply pw_below_drewN | apply below_drew1 | refine below_set ?_ GE308.out | refine below_set ?_ GE335.out) | exact HB.out)) hb)
  clear HO315
  clear HO318
  clear HO321
  clear HO328
  clear HO331
  clear HO334
  clear BK308
  clear BK335
  clear HB
  have HO315 := n0_
  have HO318 := n1_
  have HO321 := n2_
  have HO328 := n3_
  have HO331 := n4_
  have HO334 := n5_
  have BK308 := n6_
  have BK335 := n7_
  have HB := n8_
  clear n0_ n1_ n2_ n3_ n4_ n5_ n6_ n7_ n8_
  (try clear hb)
  (try clear hb2)
  (try clear hk)
  (try clear hi)
  refine hK.out _ _ ⟨(blk_cell BK335.out 0).trans rfl, (blk_cell BK335.out 1).trans rfl, (blk_cell BK335.out 2).trans rfl, (blk_cell BK335.out 3).trans rfl, (blk_cell BK335.out 4).trans rfl, (blk_cell BK335.out 5).trans rfl, (blk_cell BK335.out 6).trans rfl⟩ (fun hHeld => ?_)
  clear hK K
  refine norm_ (a' := ?_) ?_ ?_
  rotate_left
  ·show Act.put _ (some 7) _ = _
   simp only [Act.put, List.setIfInBounds_toArray, List.set_cons_zero, List.set_cons_succ, i64_w, i32_w]
   rfl
  refine pure_ (i := 1) (N := some 8) (v := ?_) (a' := ?_) #[true, true, false, false, false, false, false, false, false, false] rfl rfl (any_of HT_.out (by kernel_rfl)) (fun _ _ _ h => h) (Or.inl ⟨by rfl, ?_⟩) ?_ ?_
  rotate_left
  ·intro w'
   go_simp
   with_reducible rfl
  rotate_left
  ·simp only [Act.put, List.setIfInBounds_toArray, List.set_cons_zero, List.set_cons_succ, i64_w, i32_w]
   rfl
  refine take_ (i := 2) (N := some 9) (v := ?_) (a' := ?_) #[true, true, true, false, false, false, false, false, false, false] rfl rfl (take_ofW HT_.out HW_.out (by kernel_rfl)) (fun _ _ _ h => h) (Or.inl ⟨by rfl, ?_⟩) hHeld ?_ ?_
  rotate_left
  ·rintro w' ⟨s0, s1, s2, s3, s4, s5, s6⟩
   go_simp
   with_reducible rfl
  rotate_left
  ·simp only [Act.put, List.setIfInBounds_toArray, List.set_cons_zero, List.set_cons_succ, i64_w, i32_w]
   rfl
  refine take_ (i := 5) (N := some 12) (v := ?_) (a' := ?_) #[true, true, true, false, false, true, false, false, false, false] rfl rfl (take_ofW HT_.out HW_.out (by kernel_rfl)) (fun _ _ _ h => h) (Or.inl ⟨by rfl, ?_⟩) hHeld ?_ ?_
  rotate_left
  ·rintro w' ⟨s0, s1, s2, s3, s4, s5, s6⟩
   go_simp
   with_reducible rfl
  rotate_left
  ·simp only [Act.put, List.setIfInBounds_toArray, List.set_cons_zero, List.set_cons_succ, i64_w, i32_w]
   rfl
  refine one_ (i := 3) (N := some 10) #[true, true, true, true, false, true, false, false, false, false] rfl rfl (one_of HT_.out (by kernel_rfl)) (by decide) (fun K hK => ?_)
  refine goes_ Try.func42 (by kernel_rfl) rfl #[.agg #[.int .i64 t322, .int .i64 t323, .int .i64 t324, .int .i64 t325, .slice Ao19 t326.length co19, .slice Ao20 t329.length co20, .slice Ao21 t332.length co21]] (by rfl) rfl rfl (by (try simp only [List.map_toArray, List.map_cons, List.map_nil]); first | done | rfl | (simp only [List.length_drop, List.length_take]; rfl)) ?_
  with_reducible refine (stopgatelaw05_To.calls k t322 t323 t324 t325 _ _ t326 _ _ t329 _ _ t332 t337 t338 t339 t340 t341 t344 t347 _ ?side1 ?side2 ?side3 ?side4 ?side5 ?side6 A6.out).mono ?_
  (case side1 => repeat (first | exact (Kd.V_reads' HO328.out).2.2 | (with_reducible refine Kd.C_alloc ?_ _) | (with_reducible refine Kd.C_drewN ?_ _) | (with_reducible refine Kd.C_drew ?_)))
  (case side2 => exact (Kd.V_reads' HO328.out).2.1)
  (case side3 => repeat (first | exact (Kd.V_reads' HO331.out).2.2 | (with_reducible refine Kd.C_alloc ?_ _) | (with_reducible refine Kd.C_drewN ?_ _) | (with_reducible refine Kd.C_drew ?_)))
  (case side4 => exact (Kd.V_reads' HO331.out).2.1)
  (case side5 => repeat (first | exact (Kd.R_reads' HO334.out).2.2 | (with_reducible refine Kd.C_alloc ?_ _) | (with_reducible refine Kd.C_drewN ?_ _) | (with_reducible refine Kd.C_drew ?_)))
  (case side6 => exact (Kd.R_reads' HO334.out).2.1)
  rintro e w25 ⟨v342, v345, v348, rfl, ho0, ho1, ho2, hb⟩
  refine ⟨_, rfl, ?_⟩
  have n0_ := Aside0.mk (Kd.V_mono (Kd.V_told (Kd.V_told (Kd.V_told (Kd.V_old (by (with_reducible repeat (first | apply Kd.V_alloc | apply Kd.V_drewN | apply Kd.V_drew)); exact HO315.out) hb) (Kd.R_base ho0)) (Kd.R_base ho1)) (Kd.R_base ho2)) (fun _ h_ => h_.1))
  have n1_ := Aside0.mk (Kd.V_mono (Kd.V_told (Kd.V_told (Kd.V_told (Kd.V_old (by (with_reducible repeat (first | apply Kd.V_alloc | apply Kd.V_drewN | apply Kd.V_drew)); exact HO318.out) hb) (Kd.R_base ho0)) (Kd.R_base ho1)) (Kd.R_base ho2)) (fun _ h_ => h_.1))
  have n2_ := Aside0.mk (Kd.V_mono (Kd.V_told (Kd.V_told (Kd.V_told (Kd.V_old (by (with_reducible repeat (first | apply Kd.V_alloc | apply Kd.V_drewN | apply Kd.V_drew)); exact HO321.out) hb) (Kd.R_base ho0)) (Kd.R_base ho1)) (Kd.R_base ho2)) (fun _ h_ => h_.1))
  have n3_ := Aside0.mk (Kd.V_mono (Kd.V_told (Kd.V_told (Kd.V_told (Kd.V_old (by (with_reducible repeat (first | apply Kd.V_alloc | apply Kd.V_drewN | apply Kd.V_drew)); exact HO328.out) hb) (Kd.R_base ho0)) (Kd.R_base ho1)) (Kd.R_base ho2)) (fun _ h_ => h_.1))
  have n4_ := Aside0.mk (Kd.V_mono (Kd.V_told (Kd.V_told (Kd.V_told (Kd.V_old (by (with_reducible repeat (first | apply Kd.V_alloc | apply Kd.V_drewN | apply Kd.V_drew)); exact HO331.out) hb) (Kd.R_base ho0)) (Kd.R_base ho1)) (Kd.R_base ho2)) (fun _ h_ => h_.1))
  have n5_ := Aside0.mk (Kd.R_below (by (with_reducible repeat (first | apply Kd.R_alloc | apply Kd.R_drewN | apply Kd.R_drew)); exact HO334.out) hb)
  have n6_ := Aside0.mk (Kd.R_lower ho0 (below_size (by repeat (first | (with_reducible first | exact HB.out | apply below_alloc | apply pw_below_drewN | apply below_drew1 | refine below_set ?_ GE308.out | refine below_set ?_ GE335.out) | exact HB.out))))
  have n7_ := Aside0.mk (Kd.R_lower ho1 (below_size (by repeat (first | (with_reducible first | exact HB.out | apply below_alloc | apply pw_below_drewN | apply below_drew1 | refine below_set ?_ GE308.out | refine below_set ?_ GE335.out) | exact HB.out))))
  have n8_ := Aside0.mk (Kd.R_lower ho2 (below_size (by repeat (first | (with_reducible first | exact HB.out | apply below_alloc | apply pw_below_drewN | apply below_drew1 | refine below_set ?_ GE308.out | refine below_set ?_ GE335.out) | exact HB.out))))
  have n9_ := Aside0.mk (blk_below (g := gb308) (o := .cells #[.int .i64 a0_0, .int .i64 a0_1, .int .i64 a0_2, .int .i64 a0_3, .slice A0_4 l0_4.length c0_4, .slice A0_5 l0_5.length c0_5, .slice A0_6 l0_6.length c0_6] 78 (0, 0)) (by (with_reducible repeat (first | refine blk_drewN ?_ _ | refine blk_drew ?_ | refine blk_alloc ?_ _)); exact BK308.out) hb)
  have n10_ := Aside0.mk (blk_below (g := gb335) (o := .cells #[.int .i64 t322, .int .i64 t323, .int .i64 t324, .int .i64 t325, .slice Ao19 t326.length co19, .slice Ao20 t329.length co20, .slice Ao21 t332.length co21] 81 (0, 0)) (by (with_reducible repeat (first | refine blk_drewN ?_ _ | refine blk_drew ?_ | refine blk_alloc ?_ _)); exact BK335.out) hb)
  have n11_ := Aside0.mk (below_step (by repeat (first | (with_reducible first | exact HB.out | apply below_alloc | apply pw_below_drewN | apply below_drew1 | refine below_set ?_ GE308.out | refine below_set ?_ GE335.out) | exact HB.out)) hb)
  clear HO315
  clear HO318
  clear HO321
  clear HO328
  clear HO331
  clear HO334
  clear BK308
  clear BK335
  clear HB
  have HO315 := n0_
  have HO318 := n1_
  have HO321 := n2_
  have HO328 := n3_
  have HO331 := n4_
  have HO334 := n5_
  have HO343 := n6_
  have HO346 := n7_
  have HO349 := n8_
  have BK308 := n9_
  have BK335 := n10_
  have HB := n11_
  clear n0_ n1_ n2_ n3_ n4_ n5_ n6_ n7_ n8_ n9_ n10_ n11_
  (try clear hb)
  (try clear hb2)
  (try clear hk)
  (try clear hi)
  (try clear ho0)
  (try clear ho1)
  (try clear ho2)
  obtain ⟨Ao26, co26, eo26⟩ := Kd.R_slice HO343.out
  (first | subst eo26 | (injection eo26 with f1_ f2_ f3_; have f4_ := f1_.symm; have f5_ := f3_.symm; clear f1_ f2_ f3_; subst f4_; subst f5_))
  obtain ⟨Ao27, co27, eo27⟩ := Kd.R_slice HO346.out
  (first | subst eo27 | (injection eo27 with f1_ f2_ f3_; have f4_ := f1_.symm; have f5_ := f3_.symm; clear f1_ f2_ f3_; subst f4_; subst f5_))
  obtain ⟨Ao28, co28, eo28⟩ := Kd.R_slice HO349.out
  (first | subst eo28 | (injection eo28 with f1_ f2_ f3_; have f4_ := f1_.symm; have f5_ := f3_.symm; clear f1_ f2_ f3_; subst f4_; subst f5_))
  refine hK.out _ _ ⟨(blk_cell BK335.out 0).trans rfl, (blk_cell BK335.out 1).trans rfl, (blk_cell BK335.out 2).trans rfl, (blk_cell BK335.out 3).trans rfl, (blk_cell BK335.out 4).trans rfl, (blk_cell BK335.out 5).trans rfl, (blk_cell BK335.out 6).trans rfl⟩ (fun hHeld => ?_)
  clear hK K
  refine norm_ (a' := ?_) ?_ ?_
  rotate_left
  ·show Act.put _ (some 10) _ = _
   simp only [Act.put, List.setIfInBounds_toArray, List.set_cons_zero, List.set_cons_succ, i64_w, i32_w]
   rfl
  refine one_ (i := 4) (N := some 11) #[true, true, true, true, true, true, false, false, false, false] rfl rfl (one_of HT_.out (by kernel_rfl)) (by decide) (fun K hK => ?_)
  refine goes_ Try.func51 (by kernel_rfl) rfl #[.agg #[.int .i64 t337, .int .i64 t338, .int .i64 t339, .int .i64 t340, .slice Ao26 t341.length co26, .slice Ao27 t344.length co27, .slice Ao28 t347.length co28]] (by rfl) rfl rfl (by (try simp only [List.map_toArray, List.map_cons, List.map_nil]); first | done | rfl | (simp only [List.length_drop, List.length_take]; rfl)) ?_
  with_reducible refine (rules_Check.calls k t337 t338 t339 t340 _ _ t341 _ _ t344 _ _ t347 t350 _ ?side1 ?side2 ?side3 ?side4 ?side5 ?side6 A7.out).mono ?_
  (case side1 => repeat (first | exact (Kd.R_reads' HO343.out).2.2 | (with_reducible refine Kd.C_alloc ?_ _) | (with_reducible refine Kd.C_drewN ?_ _) | (with_reducible refine Kd.C_drew ?_)))
  (case side2 => exact (Kd.R_reads' HO343.out).2.1)
  (case side3 => repeat (first | exact (Kd.R_reads' HO346.out).2.2 | (with_reducible refine Kd.C_alloc ?_ _) | (with_reducible refine Kd.C_drewN ?_ _) | (with_reducible refine Kd.C_drew ?_)))
  (case side4 => exact (Kd.R_reads' HO346.out).2.1)
  (case side5 => repeat (first | exact (Kd.R_reads' HO349.out).2.2 | (with_reducible refine Kd.C_alloc ?_ _) | (with_reducible refine Kd.C_drewN ?_ _) | (with_reducible refine Kd.C_drew ?_)))
  (case side6 => exact (Kd.R_reads' HO349.out).2.1)
  rintro e w29 ⟨rfl, hb⟩
  refine ⟨_, rfl, ?_⟩
  have n0_ := Aside0.mk (Kd.V_below (by (with_reducible repeat (first | apply Kd.V_alloc | apply Kd.V_drewN | apply Kd.V_drew)); exact HO315.out) hb)
  have n1_ := Aside0.mk (Kd.V_below (by (with_reducible repeat (first | apply Kd.V_alloc | apply Kd.V_drewN | apply Kd.V_drew)); exact HO318.out) hb)
  have n2_ := Aside0.mk (Kd.V_below (by (with_reducible repeat (first | apply Kd.V_alloc | apply Kd.V_drewN | apply Kd.V_drew)); exact HO321.out) hb)
  have n3_ := Aside0.mk (Kd.V_below (by (with_reducible repeat (first | apply Kd.V_alloc | apply Kd.V_drewN | apply Kd.V_drew)); exact HO328.out) hb)
  have n4_ := Aside0.mk (Kd.V_below (by (with_reducible repeat (first | apply Kd.V_alloc | apply Kd.V_drewN | apply Kd.V_drew)); exact HO331.out) hb)
  have n5_ := Aside0.mk (Kd.R_below (by (with_reducible repeat (first | apply Kd.R_alloc | apply Kd.R_drewN | apply Kd.R_drew)); exact HO334.out) hb)
  have n6_ := Aside0.mk (Kd.R_below (by (with_reducible repeat (first | apply Kd.R_alloc | apply Kd.R_drewN | apply Kd.R_drew)); exact HO343.out) hb)
  have n7_ := Aside0.mk (Kd.R_below (by (with_reducible repeat (first | apply Kd.R_alloc | apply Kd.R_drewN | apply Kd.R_drew)); exact HO346.out) hb)
  have n8_ := Aside0.mk (Kd.R_below (by (with_reducible repeat (first | apply Kd.R_alloc | apply Kd.R_drewN | apply Kd.R_drew)); exact HO349.out) hb)
  have n9_ := Aside0.mk (blk_below (g := gb308) (o := .cells #[.int .i64 a0_0, .int .i64 a0_1, .int .i64 a0_2, .int .i64 a0_3, .slice A0_4 l0_4.length c0_4, .slice A0_5 l0_5.length c0_5, .slice A0_6 l0_6.length c0_6] 78 (0, 0)) (by (with_reducible repeat (first | refine blk_drewN ?_ _ | refine blk_drew ?_ | refine blk_alloc ?_ _)); exact BK308.out) hb)
  have n10_ := Aside0.mk (blk_below (g := gb335) (o := .cells #[.int .i64 t322, .int .i64 t323, .int .i64 t324, .int .i64 t325, .slice Ao19 t326.length co19, .slice Ao20 t329.length co20, .slice Ao21 t332.length co21] 81 (0, 0)) (by (with_reducible repeat (first | refine blk_drewN ?_ _ | refine blk_drew ?_ | refine blk_alloc ?_ _)); exact BK335.out) hb)
  have n11_ := Aside0.mk (below_step (by repeat (first | (with_reducible first | exact HB.out | apply below_alloc | apply pw_below_drewN | apply below_drew1 | refine below_set ?_ GE308.out | refine below_set ?_ GE335.out) | exact HB.out)) hb)
  clear HO315
  clear HO318
  clear HO321
  clear HO328
  clear HO331
  clear HO334
  clear HO343
  clear HO346
  clear HO349
  clear BK308
  clear BK335
  clear HB
  have HO315 := n0_
  have HO318 := n1_
  have HO321 := n2_
  have HO328 := n3_
  have HO331 := n4_
  have HO334 := n5_
  have HO343 := n6_
  have HO346 := n7_
  have HO349 := n8_
  have BK308 := n9_
  have BK335 := n10_
  have HB := n11_
  clear n0_ n1_ n2_ n3_ n4_ n5_ n6_ n7_ n8_ n9_ n10_ n11_
  (try clear hb)
  (try clear hb2)
  (try clear hk)
  (try clear hi)
  refine hK.out _ _ ⟨(blk_cell BK335.out 0).trans rfl, (blk_cell BK335.out 1).trans rfl, (blk_cell BK335.out 2).trans rfl, (blk_cell BK335.out 3).trans rfl, (blk_cell BK335.out 4).trans rfl, (blk_cell BK335.out 5).trans rfl, (blk_cell BK335.out 6).trans rfl⟩ (fun hHeld => ?_)
  clear hK K
  refine norm_ (a' := ?_) ?_ ?_
  rotate_left
  ·show Act.put _ (some 11) _ = _
   simp only [Act.put, List.setIfInBounds_toArray, List.set_cons_zero, List.set_cons_succ, i64_w, i32_w]
   rfl
  refine one_ (i := 6) (N := some 13) #[true, true, true, true, true, true, true, false, false, false] rfl rfl (one_of HT_.out (by kernel_rfl)) (by decide) (fun K hK => ?_)
  refine goes_ Try.func52 (by kernel_rfl) rfl #[.agg #[.int .i64 t322, .int .i64 t323, .int .i64 t324, .int .i64 t325, .slice Ao19 t326.length co19, .slice Ao20 t329.length co20, .slice Ao21 t332.length co21]] (by rfl) rfl rfl (by (try simp only [List.map_toArray, List.map_cons, List.map_nil]); first | done | rfl | (simp only [List.length_drop, List.length_take]; rfl)) ?_
  with_reducible refine (stopgateref05_Check.calls k t322 t323 t324 t325 _ _ t326 _ _ t329 _ _ t332 t351 _ ?side1 ?side2 ?side3 ?side4 ?side5 ?side6 A8.out).mono ?_
  (case side1 => repeat (first | exact (Kd.V_reads' HO328.out).2.2 | (with_reducible refine Kd.C_alloc ?_ _) | (with_reducible refine Kd.C_drewN ?_ _) | (with_reducible refine Kd.C_drew ?_)))
  (case side2 => exact (Kd.V_reads' HO328.out).2.1)
  (case side3 => repeat (first | exact (Kd.V_reads' HO331.out).2.2 | (with_reducible refine Kd.C_alloc ?_ _) | (with_reducible refine Kd.C_drewN ?_ _) | (with_reducible refine Kd.C_drew ?_)))
  (case side4 => exact (Kd.V_reads' HO331.out).2.1)
  (case side5 => repeat (first | exact (Kd.R_reads' HO334.out).2.2 | (with_reducible refine Kd.C_alloc ?_ _) | (with_reducible refine Kd.C_drewN ?_ _) | (with_reducible refine Kd.C_drew ?_)))
  (case side6 => exact (Kd.R_reads' HO334.out).2.1)
  rintro e w30 ⟨rfl, hb⟩
  refine ⟨_, rfl, ?_⟩
  have n0_ := Aside0.mk (Kd.V_below (by (with_reducible repeat (first | apply Kd.V_alloc | apply Kd.V_drewN | apply Kd.V_drew)); exact HO315.out) hb)
  have n1_ := Aside0.mk (Kd.V_below (by (with_reducible repeat (first | apply Kd.V_alloc | apply Kd.V_drewN | apply Kd.V_drew)); exact HO318.out) hb)
  have n2_ := Aside0.mk (Kd.V_below (by (with_reducible repeat (first | apply Kd.V_alloc | apply Kd.V_drewN | apply Kd.V_drew)); exact HO321.out) hb)
  have n3_ := Aside0.mk (Kd.V_below (by (with_reducible repeat (first | apply Kd.V_alloc | apply Kd.V_drewN | apply Kd.V_drew)); exact HO328.out) hb)
  have n4_ := Aside0.mk (Kd.V_below (by (with_reducible repeat (first | apply Kd.V_alloc | apply Kd.V_drewN | apply Kd.V_drew)); exact HO331.out) hb)
  have n5_ := Aside0.mk (Kd.R_below (by (with_reducible repeat (first | apply Kd.R_alloc | apply Kd.R_drewN | apply Kd.R_drew)); exact HO334.out) hb)
  have n6_ := Aside0.mk (Kd.R_below (by (with_reducible repeat (first | apply Kd.R_alloc | apply Kd.R_drewN | apply Kd.R_drew)); exact HO343.out) hb)
  have n7_ := Aside0.mk (Kd.R_below (by (with_reducible repeat (first | apply Kd.R_alloc | apply Kd.R_drewN | apply Kd.R_drew)); exact HO346.out) hb)
  have n8_ := Aside0.mk (Kd.R_below (by (with_reducible repeat (first | apply Kd.R_alloc | apply Kd.R_drewN | apply Kd.R_drew)); exact HO349.out) hb)
  have n9_ := Aside0.mk (blk_below (g := gb308) (o := .cells #[.int .i64 a0_0, .int .i64 a0_1, .int .i64 a0_2, .int .i64 a0_3, .slice A0_4 l0_4.length c0_4, .slice A0_5 l0_5.length c0_5, .slice A0_6 l0_6.length c0_6] 78 (0, 0)) (by (with_reducible repeat (first | refine blk_drewN ?_ _ | refine blk_drew ?_ | refine blk_alloc ?_ _)); exact BK308.out) hb)
  have n10_ := Aside0.mk (blk_below (g := gb335) (o := .cells #[.int .i64 t322, .int .i64 t323, .int .i64 t324, .int .i64 t325, .slice Ao19 t326.length co19, .slice Ao20 t329.length co20, .slice Ao21 t332.length co21] 81 (0, 0)) (by (with_reducible repeat (first | refine blk_drewN ?_ _ | refine blk_drew ?_ | refine blk_alloc ?_ _)); exact BK335.out) hb)
  have n11_ := Aside0.mk (below_step (by repeat (first | (with_reducible first | exact HB.out | apply below_alloc | apply pw_below_drewN | apply below_drew1 | refine below_set ?_ GE308.out | refine below_set ?_ GE335.out) | exact HB.out)) hb)
  clear HO315
  clear HO318
  clear HO321
  clear HO328
  clear HO331
  clear HO334
  clear HO343
  clear HO346
  clear HO349
  clear BK308
  clear BK335
  clear HB
  have HO315 := n0_
  have HO318 := n1_
  have HO321 := n2_
  have HO328 := n3_
  have HO331 := n4_
  have HO334 := n5_
  have HO343 := n6_
  have HO346 := n7_
  have HO349 := n8_
  have BK308 := n9_
  have BK335 := n10_
  have HB := n11_
  clear n0_ n1_ n2_ n3_ n4_ n5_ n6_ n7_ n8_ n9_ n10_ n11_
  (try clear hb)
  (try clear hb2)
  (try clear hk)
  (try clear hi)
  refine hK.out _ _ ⟨(blk_cell BK335.out 0).trans rfl, (blk_cell BK335.out 1).trans rfl, (blk_cell BK335.out 2).trans rfl, (blk_cell BK335.out 3).trans rfl, (blk_cell BK335.out 4).trans rfl, (blk_cell BK335.out 5).trans rfl, (blk_cell BK335.out 6).trans rfl⟩ (fun hHeld => ?_)
  clear hK K
  refine norm_ (a' := ?_) ?_ ?_
  rotate_left
  ·show Act.put _ (some 13) _ = _
   simp only [Act.put, List.setIfInBounds_toArray, List.set_cons_zero, List.set_cons_succ, i64_w, i32_w]
   rfl
  refine pure_ (i := 7) (N := some 14) (v := ?_) (a' := ?_) #[true, true, true, true, true, true, true, true, false, false] rfl rfl (any_of HT_.out (by kernel_rfl)) (fun _ _ _ h => h) (Or.inl ⟨by rfl, ?_⟩) ?_ ?_
  rotate_left
  ·intro w'
   go_simp
   with_reducible rfl
  rotate_left
  ·simp only [Act.put, List.setIfInBounds_toArray, List.set_cons_zero, List.set_cons_succ, i64_w, i32_w]
   rfl
  refine pure_ (i := 8) (N := some 15) (v := ?_) (a' := ?_) #[true, true, true, true, true, true, true, true, true, false] rfl rfl (any_of HT_.out (by kernel_rfl)) (fun _ _ _ h => h) (Or.inl ⟨by rfl, ?_⟩) ?_ ?_
  rotate_left
  ·intro w'
   go_simp
   with_reducible rfl
  rotate_left
  ·simp only [Act.put, List.setIfInBounds_toArray, List.set_cons_zero, List.set_cons_succ, i64_w, i32_w]
   rfl
  refine pure_ (i := 9) (N := some 2) (v := ?_) (a' := ?_) #[true, true, true, true, true, true, true, true, true, true] rfl rfl (any_of HT_.out (by kernel_rfl)) (fun _ _ _ h => h) (Or.inl ⟨by rfl, ?_⟩) ?_ ?_
  rotate_left
  ·intro w'
   go_simp
   with_reducible rfl
  rotate_left
  ·simp only [Act.put, List.setIfInBounds_toArray, List.set_cons_zero, List.set_cons_succ, i64_w, i32_w]
   rfl
  refine done_ (done_of HT_.out (by kernel_rfl)) ?_
  try go_wp2
  go_ret
  exact ⟨by first | rfl | (simp [errW_none, errW_some] <;> rfl) | (simp [*, errW_none, errW_some] <;> rfl), by repeat (first | (with_reducible first | exact HB.out | apply below_alloc | apply pw_below_drewN | apply below_drew1 | refine below_set ?_ GE308.out | refine below_set ?_ GE335.out) | exact HB.out)⟩
 ·replace c5 := Bool.eq_false_iff.mpr c5
  subst c5
  have H1 : (none) = some r := by rw [if_neg (show ¬ (false = true) by decide)] at H; exact H
  clear H
  have H := H1
  clear H1
  exact absurd H (by simp)

/-- THE ONE PURE STATEMENT of stopgatelaw05_RulesChecks: yours. -/
def stopgatelaw05_RulesChecks.Pure : Prop := ∀ (a0_0 : Int) (a0_1 : Int) (a0_2 : Int) (a0_3 : Int) (l0_4 : List (S176)) (l0_5 : List Int) (l0_6 : List (S145)), (Lit.int .i64 a0_0).wf = true → (Lit.int .i64 a0_1).wf = true → (Lit.int .i64 a0_2).wf = true → (Lit.int .i64 a0_3).wf = true → (l0_4.length ≤ maxLen ∧ ∀ x ∈ l0_4, ((Lit.int .i64 x.f0).wf = true ∧ (Lit.int .i64 x.f1).wf = true)) → (l0_5.length ≤ maxLen ∧ ∀ x ∈ l0_5, (Lit.int .i64 x).wf = true) → (l0_6.length ≤ maxLen ∧ ∀ x ∈ l0_6, ((Lit.int .i64 x.f0).wf = true ∧ (Lit.int .i64 x.f1).wf = true ∧ (Lit.int .i64 x.f2).wf = true ∧ (Lit.int .u64 x.f3).wf = true)) → ∃ k, stopgatelaw05_RulesChecks.f k a0_0 a0_1 a0_2 a0_3 l0_4 l0_5 l0_6 = some true
theorem stopgatelaw05_RulesChecks.walk (P : stopgatelaw05_RulesChecks.Pure) (a0_0 : Int) (a0_1 : Int) (a0_2 : Int) (a0_3 : Int) (A0_4 : Option Addr) (c0_4 : Nat) (l0_4 : List (S176)) (A0_5 : Option Addr) (c0_5 : Nat) (l0_5 : List Int) (A0_6 : Option Addr) (c0_6 : Nat) (l0_6 : List (S145)) (w : World) (hr0_4 : Kd.C k176 w A0_4 l0_4.length l0_4) (hc0_4 : l0_4.length ≤ c0_4) (hr0_5 : Kd.C (Kd.int .i64) w A0_5 l0_5.length l0_5) (hc0_5 : l0_5.length ≤ c0_5) (hr0_6 : Kd.C k145 w A0_6 l0_6.length l0_6) (hc0_6 : l0_6.length ≤ c0_6) (h_0_0 : (Lit.int .i64 a0_0).wf = true) (h_0_1 : (Lit.int .i64 a0_1).wf = true) (h_0_2 : (Lit.int .i64 a0_2).wf = true) (h_0_3 : (Lit.int .i64 a0_3).wf = true) (h_0_4 : (l0_4.length ≤ maxLen ∧ ∀ x ∈ l0_4, ((Lit.int .i64 x.f0).wf = true ∧ (Lit.int .i64 x.f1).wf = true))) (h_0_5 : (l0_5.length ≤ maxLen ∧ ∀ x ∈ l0_5, (Lit.int .i64 x).wf = true)) (h_0_6 : (l0_6.length ≤ maxLen ∧ ∀ x ∈ l0_6, ((Lit.int .i64 x.f0).wf = true ∧ (Lit.int .i64 x.f1).wf = true ∧ (Lit.int .i64 x.f2).wf = true ∧ (Lit.int .u64 x.f3).wf = true))) :
  Calls Try.prog 12 #[.agg #[.int .i64 a0_0, .int .i64 a0_1, .int .i64 a0_2, .int .i64 a0_3, .slice A0_4 l0_4.length c0_4, .slice A0_5 l0_5.length c0_5, .slice A0_6 l0_6.length c0_6]] w fun e w' => e = .returned (.bool true) ∧ Below w.heap.size w w' := by
 obtain ⟨k, h⟩ := P a0_0 a0_1 a0_2 a0_3 l0_4 l0_5 l0_6 h_0_0 h_0_1 h_0_2 h_0_3 h_0_4 h_0_5 h_0_6
 refine (stopgatelaw05_RulesChecks.calls k a0_0 a0_1 a0_2 a0_3 _ _ l0_4 _ _ l0_5 _ _ l0_6 true w hr0_4 hc0_4 hr0_5 hc0_5 hr0_6 hc0_6 h).mono ?_
 rintro e w' ⟨rfl, hd⟩
 exact ⟨rfl, hd⟩

end Go.Proofs.Ytgikjgekdeaneaa.QRulesChecks
