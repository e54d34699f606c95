/- Printed by wip/gen/myprint.py, a program of this session, for this claim: functions of the program as Lean functions, each with a proof that the Go code comes to its answers. -/
import Derived.Test.YtgikjgekdeaneaaQRulesLooksx0
import Derived.Test.YtgikjgekdeaneaaQRulesLooksx2
import Derived.Test.YtgikjgekdeaneaaQRulesLooksx3
import Derived.Test.YtgikjgekdeaneaaQRulesLooksx4
import Derived.Test.YtgikjgekdeaneaaQRulesLooksx5
import Derived.Test.YtgikjgekdeaneaaQRulesLooksx7
import Derived.Test.YtgikjgekdeaneaaQRulesLooksx8
import Derived.Test.YtgikjgekdeaneaaQRulesLooksx9
import Derived.Test.YtgikjgekdeaneaaQRulesLooksx10
import Derived.Test.YtgikjgekdeaneaaQRulesLooksx11
namespace Go.Proofs.Ytgikjgekdeaneaa.QRulesLooks
open Go.RowKit Go.Proofs.YtgikjgekdeaneaaW.PrintWords Go.Proofs.YtgikjgekdeaneaaW.PrintLast Go.Proofs.YtgikjgekdeaneaaW.PrintMore
attribute [local go_sem] max2_int min2_int max_two min_two max_three min_three max_four min_four   -- for this text's walks alone
set_option linter.unusedVariables false
set_option linter.unusedSimpArgs false

attribute [local go_sem] run_store_flt
/-! ### stopgatelaw05_RulesLooks: function 13 -/
def stopgatelaw05_RulesLooks.f (k : Nat) (a0_0 : Int) (a0_1 : Int) (a0_2 : Int) (a0_3 : Int) (l0_4 : List (S176)) (l0_5 : List Int) (l0_6 : List (S145)) (a1_0 : Int) (a1_1 : Int) (a1_2 : Bool) (a1_3 : Int) (a1_4 : Int) (a1_5 : Int) (a1_6 : Int) : Option (Bool) := (stopgatelaw05_few.f a0_0 a0_1 a0_2 a0_3 l0_4 l0_5 l0_6).bind fun bt315 => ((stopgatelaw05_Ref.f k bt315.1 bt315.2.1 bt315.2.2.1 bt315.2.2.2.1 bt315.2.2.2.2.1 bt315.2.2.2.2.2.1 bt315.2.2.2.2.2.2).bind fun bt328 => ((stopgateref05_Fix.f k bt328.1 bt328.2.1 bt328.2.2.1 bt328.2.2.2.1 bt328.2.2.2.2.1 bt328.2.2.2.2.2.1 bt328.2.2.2.2.2.2).bind fun bt341 => ((stopgatelaw05_To.f k bt341.1 bt341.2.1 bt341.2.2.1 bt341.2.2.2.1 bt341.2.2.2.2.1 bt341.2.2.2.2.2.1 bt341.2.2.2.2.2.2).bind fun bt355 => ((stopgatelaw05_Order.f a1_0 a1_1 a1_2 a1_3 a1_4 a1_5 a1_6).bind fun bt369 => ((rules_Look.f k bt355.1 bt355.2.1 bt355.2.2.1 bt355.2.2.2.1 bt355.2.2.2.2.1 bt355.2.2.2.2.2.1 bt355.2.2.2.2.2.2 bt369.1 bt369.2.1 bt369.2.2.1 bt369.2.2.2.1 bt369.2.2.2.2.1 bt369.2.2.2.2.2.1 bt369.2.2.2.2.2.2).bind fun bt376 => ((stopgateref05_Look.f k bt341.1 bt341.2.1 bt341.2.2.1 bt341.2.2.2.1 bt341.2.2.2.2.1 bt341.2.2.2.2.2.1 bt341.2.2.2.2.2.2 a1_0 a1_1 a1_2 a1_3 a1_4 a1_5 a1_6).bind fun bt378 => ((stopgatelaw05_told.f k).bind fun t380 => (if t380 = true then ((rules_Check.f k bt355.1 bt355.2.1 bt355.2.2.1 bt355.2.2.2.1 bt355.2.2.2.2.1 bt355.2.2.2.2.2.1 bt355.2.2.2.2.2.2).bind fun t381 => (if t381 = 0 then (if bt376.1 = bt378.1 then (if bt376.2 = bt378.2 then ((rules_Shard.f bt355.1 bt355.2.1 bt355.2.2.1 bt355.2.2.2.1 bt355.2.2.2.2.1 bt355.2.2.2.2.2.1 bt355.2.2.2.2.2.2 a1_0).bind fun t382 => ((stopgateref05_Shard.f bt341.1 bt341.2.1 bt341.2.2.1 bt341.2.2.2.1 bt341.2.2.2.2.1 bt341.2.2.2.2.2.1 bt341.2.2.2.2.2.2 a1_0).bind fun t383 => (some (t382 == t383)))) else (none)) else (none)) else (none))) else (none)))))))))
theorem stopgatelaw05_RulesLooks.mono : ∀ a0 a1 a2 a3 a4 a5 a6 a7 a8 a9 a10 a11 a12 a13 k, LeO (stopgatelaw05_RulesLooks.f k a0 a1 a2 a3 a4 a5 a6 a7 a8 a9 a10 a11 a12 a13) (stopgatelaw05_RulesLooks.f (k + 1) a0 a1 a2 a3 a4 a5 a6 a7 a8 a9 a10 a11 a12 a13) := by
 intro a0 a1 a2 a3 a4 a5 a6 a7 a8 a9 a10 a11 a12 a13 k
 unfold stopgatelaw05_RulesLooks.f
 repeat' first
   | (with_reducible exact rules_Check.mono _ _ _ _ _ _ _ _)
   | (with_reducible exact rules_Look.mono _ _ _ _ _ _ _ _ _ _ _ _ _ _ _)
   | (with_reducible exact stopgatelaw05_Ref.mono _ _ _ _ _ _ _ _)
   | (with_reducible exact stopgatelaw05_To.mono _ _ _ _ _ _ _ _)
   | (with_reducible exact stopgatelaw05_told.mono _)
   | (with_reducible exact stopgateref05_Fix.mono _ _ _ _ _ _ _ _)
   | (with_reducible exact stopgateref05_Look.mono _ _ _ _ _ _ _ _ _ _ _ _ _ _ _)
   | (with_reducible exact LeO.refl _)
   | (with_reducible exact LeO.none _)
   | (with_reducible refine LeO.ite ?_ ?_)
   | (with_reducible refine LeO.bind ?_ (fun _ => ?_))
   | exact rules_Check.mono _ _ _ _ _ _ _ _
   | exact rules_Look.mono _ _ _ _ _ _ _ _ _ _ _ _ _ _ _
   | exact stopgatelaw05_Ref.mono _ _ _ _ _ _ _ _
   | exact stopgatelaw05_To.mono _ _ _ _ _ _ _ _
   | exact stopgatelaw05_told.mono _
   | exact stopgateref05_Fix.mono _ _ _ _ _ _ _ _
   | exact stopgateref05_Look.mono _ _ _ _ _ _ _ _ _ _ _ _ _ _ _
   | exact LeO.none _
   | refine LeO.ite ?_ ?_
   | refine LeO.bind ?_ (fun _ => ?_)
def stopgatelaw05_RulesLooks.T3 : Bool × List (List Nat × List Nat) := (true, [([], []), ([], []), ([1], [1]), ([0, 2, 2], [0, 2]), ([3], [3]), ([4], [4]), ([4], [4]), ([5, 3, 0, 1, 2, 3, 4, 5], [5]), ([6, 7, 0, 1, 2, 3, 4, 5, 6, 7], [6])])
def stopgatelaw05_RulesLooks.B3 : List Nat := [0, 0, 2, 7, 15, 31, 31, 63, 255]
theorem stopgatelaw05_RulesLooks.tab3 : rtab .any (opsOf Try.f13 3) = stopgatelaw05_RulesLooks.T3 := by kernel_rfl
theorem stopgatelaw05_RulesLooks.bits3 : waitsOk stopgatelaw05_RulesLooks.T3.2 stopgatelaw05_RulesLooks.B3 = true := by kernel_rfl
def stopgatelaw05_RulesLooks.T5 : Bool × List (List Nat × List Nat) := (true, [([], []), ([0, 0], [0]), ([1], [1]), ([2, 1, 1], [1, 2]), ([3, 1], [1, 3]), ([1, 4], [1, 4]), ([5, 3], [5]), ([6], [6]), ([6], [6]), ([7, 8, 6], [6, 7, 8]), ([6, 9], [6, 9]), ([10, 6], [10]), ([11], [11]), ([11], [11]), ([12, 13, 11], [11, 12, 13]), ([11, 14], [11, 14]), ([15, 11], [15]), ([16], [16]), ([16], [16]), ([18, 16], [16, 18]), ([17, 19, 16, 16], [16, 17, 19]), ([16], [16]), ([16], [16]), ([22, 16], [16, 22]), ([21, 23, 20, 16], [16, 21, 23]), ([20, 24, 16], [16, 20, 24]), ([16, 25], [16, 25]), ([26, 24, 0, 1, 2, 3, 4, 5, 6, 7, 8, 9, 10, 11, 12, 13, 14, 15, 16, 17, 18, 19, 20, 21, 22, 23, 24, 25, 26], [26])])
def stopgatelaw05_RulesLooks.B5 : List Nat := [0, 1, 3, 7, 15, 31, 63, 127, 127, 511, 1023, 2047, 4095, 4095, 16383, 32767, 65535, 131071, 131071, 393215, 1048575, 131071, 131071, 4325375, 16777215, 33554431, 67108863, 134217727]
theorem stopgatelaw05_RulesLooks.tab5 : rtab .any (opsOf Try.f13 5) = stopgatelaw05_RulesLooks.T5 := by kernel_rfl
theorem stopgatelaw05_RulesLooks.bits5 : waitsOk stopgatelaw05_RulesLooks.T5.2 stopgatelaw05_RulesLooks.B5 = true := by kernel_rfl
set_option maxHeartbeats 8000000 in
set_option maxRecDepth 100000 in
theorem stopgatelaw05_RulesLooks.calls (k : Nat) (a0_0 : Int) (a0_1 : Int) (a0_2 : Int) (a0_3 : Int) (A0_4 : Option Addr) (c0_4 : Nat) (l0_4 : List (S176)) (A0_5 : Option Addr) (c0_5 : Nat) (l0_5 : List Int) (A0_6 : Option Addr) (c0_6 : Nat) (l0_6 : List (S145)) (a1_0 : Int) (a1_1 : Int) (a1_2 : Bool) (a1_3 : Int) (a1_4 : Int) (a1_5 : Int) (a1_6 : Int) (r : Bool) (w : World) (hr0_4 : Kd.C k176 w A0_4 l0_4.length l0_4) (hc0_4 : l0_4.length ≤ c0_4) (hr0_5 : Kd.C (Kd.int .i64) w A0_5 l0_5.length l0_5) (hc0_5 : l0_5.length ≤ c0_5) (hr0_6 : Kd.C k145 w A0_6 l0_6.length l0_6) (hc0_6 : l0_6.length ≤ c0_6) (h : stopgatelaw05_RulesLooks.f k a0_0 a0_1 a0_2 a0_3 l0_4 l0_5 l0_6 a1_0 a1_1 a1_2 a1_3 a1_4 a1_5 a1_6 = some r) :
  Calls Try.prog 13 #[.agg #[.int .i64 a0_0, .int .i64 a0_1, .int .i64 a0_2, .int .i64 a0_3, .slice A0_4 l0_4.length c0_4, .slice A0_5 l0_5.length c0_5, .slice A0_6 l0_6.length c0_6], .agg #[.int .i64 a1_0, .int .i64 a1_1, .bool a1_2, .int .i64 a1_3, .int .i64 a1_4, .int .i64 a1_5, .int .i64 a1_6]] w fun e w' => e = .returned (.bool r) ∧ Below w.heap.size w w' := by
 have hu78 := Try.underlying78
 have hu23 := Try.underlying23
 have hu81 := Try.underlying81
 have hu90 := Try.underlying90
 have HR0_4 := A0s.mk hr0_4
 have HC0_4 := A0s.mk hc0_4
 clear hr0_4 hc0_4
 have HR0_5 := A0s.mk hr0_5
 have HC0_5 := A0s.mk hc0_5
 clear hr0_5 hc0_5
 have HR0_6 := A0s.mk hr0_6
 have HC0_6 := A0s.mk hc0_6
 clear hr0_6 hc0_6
 have HB := A0s.mk (Below.refl w.heap.size w)
 have H : ((stopgatelaw05_few.f a0_0 a0_1 a0_2 a0_3 l0_4 l0_5 l0_6).bind fun bt315 => ((stopgatelaw05_Ref.f k bt315.1 bt315.2.1 bt315.2.2.1 bt315.2.2.2.1 bt315.2.2.2.2.1 bt315.2.2.2.2.2.1 bt315.2.2.2.2.2.2).bind fun bt328 => ((stopgateref05_Fix.f k bt328.1 bt328.2.1 bt328.2.2.1 bt328.2.2.2.1 bt328.2.2.2.2.1 bt328.2.2.2.2.2.1 bt328.2.2.2.2.2.2).bind fun bt341 => ((stopgatelaw05_To.f k bt341.1 bt341.2.1 bt341.2.2.1 bt341.2.2.2.1 bt341.2.2.2.2.1 bt341.2.2.2.2.2.1 bt341.2.2.2.2.2.2).bind fun bt355 => ((stopgatelaw05_Order.f a1_0 a1_1 a1_2 a1_3 a1_4 a1_5 a1_6).bind fun bt369 => ((rules_Look.f k bt355.1 bt355.2.1 bt355.2.2.1 bt355.2.2.2.1 bt355.2.2.2.2.1 bt355.2.2.2.2.2.1 bt355.2.2.2.2.2.2 bt369.1 bt369.2.1 bt369.2.2.1 bt369.2.2.2.1 bt369.2.2.2.2.1 bt369.2.2.2.2.2.1 bt369.2.2.2.2.2.2).bind fun bt376 => ((stopgateref05_Look.f k bt341.1 bt341.2.1 bt341.2.2.1 bt341.2.2.2.1 bt341.2.2.2.2.1 bt341.2.2.2.2.2.1 bt341.2.2.2.2.2.2 a1_0 a1_1 a1_2 a1_3 a1_4 a1_5 a1_6).bind fun bt378 => ((stopgatelaw05_told.f k).bind fun t380 => (if t380 = true then ((rules_Check.f k bt355.1 bt355.2.1 bt355.2.2.1 bt355.2.2.2.1 bt355.2.2.2.2.1 bt355.2.2.2.2.2.1 bt355.2.2.2.2.2.2).bind fun t381 => (if t381 = 0 then (if bt376.1 = bt378.1 then (if bt376.2 = bt378.2 then ((rules_Shard.f bt355.1 bt355.2.1 bt355.2.2.1 bt355.2.2.2.1 bt355.2.2.2.2.1 bt355.2.2.2.2.2.1 bt355.2.2.2.2.2.2 a1_0).bind fun t382 => ((stopgateref05_Shard.f bt341.1 bt341.2.1 bt341.2.2.1 bt341.2.2.2.1 bt341.2.2.2.2.1 bt341.2.2.2.2.2.1 bt341.2.2.2.2.2.2 a1_0).bind fun t383 => (some (t382 == t383)))) else (none)) else (none)) else (none))) else (none)))))))))) = some r := h
 clear h
 replace H := Option.bind_eq_some_iff.mp H
 obtain ⟨⟨t315, t316, t317, t318, t319, t322, t325⟩, A30, H⟩ := H
 replace H : ((stopgatelaw05_Ref.f k t315 t316 t317 t318 t319 t322 t325).bind fun bt328 => ((stopgateref05_Fix.f k bt328.1 bt328.2.1 bt328.2.2.1 bt328.2.2.2.1 bt328.2.2.2.2.1 bt328.2.2.2.2.2.1 bt328.2.2.2.2.2.2).bind fun bt341 => ((stopgatelaw05_To.f k bt341.1 bt341.2.1 bt341.2.2.1 bt341.2.2.2.1 bt341.2.2.2.2.1 bt341.2.2.2.2.2.1 bt341.2.2.2.2.2.2).bind fun bt355 => ((stopgatelaw05_Order.f a1_0 a1_1 a1_2 a1_3 a1_4 a1_5 a1_6).bind fun bt369 => ((rules_Look.f k bt355.1 bt355.2.1 bt355.2.2.1 bt355.2.2.2.1 bt355.2.2.2.2.1 bt355.2.2.2.2.2.1 bt355.2.2.2.2.2.2 bt369.1 bt369.2.1 bt369.2.2.1 bt369.2.2.2.1 bt369.2.2.2.2.1 bt369.2.2.2.2.2.1 bt369.2.2.2.2.2.2).bind fun bt376 => ((stopgateref05_Look.f k bt341.1 bt341.2.1 bt341.2.2.1 bt341.2.2.2.1 bt341.2.2.2.2.1 bt341.2.2.2.2.2.1 bt341.2.2.2.2.2.2 a1_0 a1_1 a1_2 a1_3 a1_4 a1_5 a1_6).bind fun bt378 => ((stopgatelaw05_told.f k).bind fun t380 => (if t380 = true then ((rules_Check.f k bt355.1 bt355.2.1 bt355.2.2.1 bt355.2.2.2.1 bt355.2.2.2.2.1 bt355.2.2.2.2.2.1 bt355.2.2.2.2.2.2).bind fun t381 => (if t381 = 0 then (if bt376.1 = bt378.1 then (if bt376.2 = bt378.2 then ((rules_Shard.f bt355.1 bt355.2.1 bt355.2.2.1 bt355.2.2.2.1 bt355.2.2.2.2.1 bt355.2.2.2.2.2.1 bt355.2.2.2.2.2.2 a1_0).bind fun t382 => ((stopgateref05_Shard.f bt341.1 bt341.2.1 bt341.2.2.1 bt341.2.2.2.1 bt341.2.2.2.2.1 bt341.2.2.2.2.2.1 bt341.2.2.2.2.2.2 a1_0).bind fun t383 => (some (t382 == t383)))) else (none)) else (none)) else (none))) else (none))))))))) = some r := H
 have A3 := A0s.mk A30
 clear A30
 replace H := Option.bind_eq_some_iff.mp H
 obtain ⟨⟨t328, t329, t330, t331, t332, t335, t338⟩, A40, H⟩ := H
 replace H : ((stopgateref05_Fix.f k t328 t329 t330 t331 t332 t335 t338).bind fun bt341 => ((stopgatelaw05_To.f k bt341.1 bt341.2.1 bt341.2.2.1 bt341.2.2.2.1 bt341.2.2.2.2.1 bt341.2.2.2.2.2.1 bt341.2.2.2.2.2.2).bind fun bt355 => ((stopgatelaw05_Order.f a1_0 a1_1 a1_2 a1_3 a1_4 a1_5 a1_6).bind fun bt369 => ((rules_Look.f k bt355.1 bt355.2.1 bt355.2.2.1 bt355.2.2.2.1 bt355.2.2.2.2.1 bt355.2.2.2.2.2.1 bt355.2.2.2.2.2.2 bt369.1 bt369.2.1 bt369.2.2.1 bt369.2.2.2.1 bt369.2.2.2.2.1 bt369.2.2.2.2.2.1 bt369.2.2.2.2.2.2).bind fun bt376 => ((stopgateref05_Look.f k bt341.1 bt341.2.1 bt341.2.2.1 bt341.2.2.2.1 bt341.2.2.2.2.1 bt341.2.2.2.2.2.1 bt341.2.2.2.2.2.2 a1_0 a1_1 a1_2 a1_3 a1_4 a1_5 a1_6).bind fun bt378 => ((stopgatelaw05_told.f k).bind fun t380 => (if t380 = true then ((rules_Check.f k bt355.1 bt355.2.1 bt355.2.2.1 bt355.2.2.2.1 bt355.2.2.2.2.1 bt355.2.2.2.2.2.1 bt355.2.2.2.2.2.2).bind fun t381 => (if t381 = 0 then (if bt376.1 = bt378.1 then (if bt376.2 = bt378.2 then ((rules_Shard.f bt355.1 bt355.2.1 bt355.2.2.1 bt355.2.2.2.1 bt355.2.2.2.2.1 bt355.2.2.2.2.2.1 bt355.2.2.2.2.2.2 a1_0).bind fun t382 => ((stopgateref05_Shard.f bt341.1 bt341.2.1 bt341.2.2.1 bt341.2.2.2.1 bt341.2.2.2.2.1 bt341.2.2.2.2.2.1 bt341.2.2.2.2.2.2 a1_0).bind fun t383 => (some (t382 == t383)))) else (none)) else (none)) else (none))) else (none)))))))) = some r := H
 have A4 := A0s.mk A40
 clear A40
 replace H := Option.bind_eq_some_iff.mp H
 obtain ⟨⟨t341, t342, t343, t344, t345, t348, t351⟩, A50, H⟩ := H
 replace H : ((stopgatelaw05_To.f k t341 t342 t343 t344 t345 t348 t351).bind fun bt355 => ((stopgatelaw05_Order.f a1_0 a1_1 a1_2 a1_3 a1_4 a1_5 a1_6).bind fun bt369 => ((rules_Look.f k bt355.1 bt355.2.1 bt355.2.2.1 bt355.2.2.2.1 bt355.2.2.2.2.1 bt355.2.2.2.2.2.1 bt355.2.2.2.2.2.2 bt369.1 bt369.2.1 bt369.2.2.1 bt369.2.2.2.1 bt369.2.2.2.2.1 bt369.2.2.2.2.2.1 bt369.2.2.2.2.2.2).bind fun bt376 => ((stopgateref05_Look.f k t341 t342 t343 t344 t345 t348 t351 a1_0 a1_1 a1_2 a1_3 a1_4 a1_5 a1_6).bind fun bt378 => ((stopgatelaw05_told.f k).bind fun t380 => (if t380 = true then ((rules_Check.f k bt355.1 bt355.2.1 bt355.2.2.1 bt355.2.2.2.1 bt355.2.2.2.2.1 bt355.2.2.2.2.2.1 bt355.2.2.2.2.2.2).bind fun t381 => (if t381 = 0 then (if bt376.1 = bt378.1 then (if bt376.2 = bt378.2 then ((rules_Shard.f bt355.1 bt355.2.1 bt355.2.2.1 bt355.2.2.2.1 bt355.2.2.2.2.1 bt355.2.2.2.2.2.1 bt355.2.2.2.2.2.2 a1_0).bind fun t382 => ((stopgateref05_Shard.f t341 t342 t343 t344 t345 t348 t351 a1_0).bind fun t383 => (some (t382 == t383)))) else (none)) else (none)) else (none))) else (none))))))) = some r := H
 have A5 := A0s.mk A50
 clear A50
 replace H := Option.bind_eq_some_iff.mp H
 obtain ⟨⟨t355, t356, t357, t358, t359, t362, t365⟩, A60, H⟩ := H
 replace H : ((stopgatelaw05_Order.f a1_0 a1_1 a1_2 a1_3 a1_4 a1_5 a1_6).bind fun bt369 => ((rules_Look.f k t355 t356 t357 t358 t359 t362 t365 bt369.1 bt369.2.1 bt369.2.2.1 bt369.2.2.2.1 bt369.2.2.2.2.1 bt369.2.2.2.2.2.1 bt369.2.2.2.2.2.2).bind fun bt376 => ((stopgateref05_Look.f k t341 t342 t343 t344 t345 t348 t351 a1_0 a1_1 a1_2 a1_3 a1_4 a1_5 a1_6).bind fun bt378 => ((stopgatelaw05_told.f k).bind fun t380 => (if t380 = true then ((rules_Check.f k t355 t356 t357 t358 t359 t362 t365).bind fun t381 => (if t381 = 0 then (if bt376.1 = bt378.1 then (if bt376.2 = bt378.2 then ((rules_Shard.f t355 t356 t357 t358 t359 t362 t365 a1_0).bind fun t382 => ((stopgateref05_Shard.f t341 t342 t343 t344 t345 t348 t351 a1_0).bind fun t383 => (some (t382 == t383)))) else (none)) else (none)) else (none))) else (none)))))) = some r := H
 have A6 := A0s.mk A60
 clear A60
 replace H := Option.bind_eq_some_iff.mp H
 obtain ⟨⟨t369, t370, t371, t372, t373, t374, t375⟩, A70, H⟩ := H
 replace H : ((rules_Look.f k t355 t356 t357 t358 t359 t362 t365 t369 t370 t371 t372 t373 t374 t375).bind fun bt376 => ((stopgateref05_Look.f k t341 t342 t343 t344 t345 t348 t351 a1_0 a1_1 a1_2 a1_3 a1_4 a1_5 a1_6).bind fun bt378 => ((stopgatelaw05_told.f k).bind fun t380 => (if t380 = true then ((rules_Check.f k t355 t356 t357 t358 t359 t362 t365).bind fun t381 => (if t381 = 0 then (if bt376.1 = bt378.1 then (if bt376.2 = bt378.2 then ((rules_Shard.f t355 t356 t357 t358 t359 t362 t365 a1_0).bind fun t382 => ((stopgateref05_Shard.f t341 t342 t343 t344 t345 t348 t351 a1_0).bind fun t383 => (some (t382 == t383)))) else (none)) else (none)) else (none))) else (none))))) = some r := H
 have A7 := A0s.mk A70
 clear A70
 replace H := Option.bind_eq_some_iff.mp H
 obtain ⟨⟨t376, t377⟩, A80, H⟩ := H
 replace H : ((stopgateref05_Look.f k t341 t342 t343 t344 t345 t348 t351 a1_0 a1_1 a1_2 a1_3 a1_4 a1_5 a1_6).bind fun bt378 => ((stopgatelaw05_told.f k).bind fun t380 => (if t380 = true then ((rules_Check.f k t355 t356 t357 t358 t359 t362 t365).bind fun t381 => (if t381 = 0 then (if t376 = bt378.1 then (if t377 = bt378.2 then ((rules_Shard.f t355 t356 t357 t358 t359 t362 t365 a1_0).bind fun t382 => ((stopgateref05_Shard.f t341 t342 t343 t344 t345 t348 t351 a1_0).bind fun t383 => (some (t382 == t383)))) else (none)) else (none)) else (none))) else (none)))) = some r := H
 have A8 := A0s.mk A80
 clear A80
 replace H := Option.bind_eq_some_iff.mp H
 obtain ⟨⟨t378, t379⟩, A90, H⟩ := H
 replace H : ((stopgatelaw05_told.f k).bind fun t380 => (if t380 = true then ((rules_Check.f k t355 t356 t357 t358 t359 t362 t365).bind fun t381 => (if t381 = 0 then (if t376 = t378 then (if t377 = t379 then ((rules_Shard.f t355 t356 t357 t358 t359 t362 t365 a1_0).bind fun t382 => ((stopgateref05_Shard.f t341 t342 t343 t344 t345 t348 t351 a1_0).bind fun t383 => (some (t382 == t383)))) else (none)) else (none)) else (none))) else (none))) = some r := H
 have A9 := A0s.mk A90
 clear A90
 replace H := Option.bind_eq_some_iff.mp H
 obtain ⟨t380, A100, H⟩ := H
 replace H : (if t380 = true then ((rules_Check.f k t355 t356 t357 t358 t359 t362 t365).bind fun t381 => (if t381 = 0 then (if t376 = t378 then (if t377 = t379 then ((rules_Shard.f t355 t356 t357 t358 t359 t362 t365 a1_0).bind fun t382 => ((stopgateref05_Shard.f t341 t342 t343 t344 t345 t348 t351 a1_0).bind fun t383 => (some (t382 == t383)))) else (none)) else (none)) else (none))) else (none)) = some r := H
 have A10 := A0s.mk A100
 clear A100
 by_cases c11 : t380 = true
 ·subst c11
  have H1 : ((rules_Check.f k t355 t356 t357 t358 t359 t362 t365).bind fun t381 => (if t381 = 0 then (if t376 = t378 then (if t377 = t379 then ((rules_Shard.f t355 t356 t357 t358 t359 t362 t365 a1_0).bind fun t382 => ((stopgateref05_Shard.f t341 t342 t343 t344 t345 t348 t351 a1_0).bind fun t383 => (some (t382 == t383)))) else (none)) else (none)) else (none))) = some r := by rw [if_pos rfl] at H; exact H
  clear H
  have H := H1
  clear H1
  replace H := Option.bind_eq_some_iff.mp H
  obtain ⟨t381, A120, H⟩ := H
  replace H : (if t381 = 0 then (if t376 = t378 then (if t377 = t379 then ((rules_Shard.f t355 t356 t357 t358 t359 t362 t365 a1_0).bind fun t382 => ((stopgateref05_Shard.f t341 t342 t343 t344 t345 t348 t351 a1_0).bind fun t383 => (some (t382 == t383)))) else (none)) else (none)) else (none)) = some r := H
  have A12 := A0s.mk A120
  clear A120
  by_cases c13 : t381 = 0
  ·rw [if_pos c13] at H
   have c13b0 : (t381 == 0) = true := beq_iff_eq.mpr c13
   have c13b1 : (t381 != 0) = false := bne_eq_false_iff_eq.mpr c13
   clear c13
   by_cases c14 : t376 = t378
   ·rw [if_pos c14] at H
    have c14b0 : (t376 == t378) = true := beq_iff_eq.mpr c14
    have c14b1 : (t376 != t378) = false := bne_eq_false_iff_eq.mpr c14
    clear c14
    by_cases c15 : t377 = t379
    ·rw [if_pos c15] at H
     have c15b0 : (t377 == t379) = true := beq_iff_eq.mpr c15
     have c15b1 : (t377 != t379) = false := bne_eq_false_iff_eq.mpr c15
     clear c15
     replace H := Option.bind_eq_some_iff.mp H
     obtain ⟨t382, A160, H⟩ := H
     replace H : ((stopgateref05_Shard.f t341 t342 t343 t344 t345 t348 t351 a1_0).bind fun t383 => (some (t382 == t383))) = some r := H
     have A16 := A0s.mk A160
     clear A160
     replace H := Option.bind_eq_some_iff.mp H
     obtain ⟨t383, A170, H⟩ := H
     replace H : (some (t382 == t383)) = some r := H
     have A17 := A0s.mk A170
     clear A170
     obtain rfl := Option.some.inj H
     go_enter Try.func13, Try.ntmps13
     try go_wp2_with (first | ((with_reducible refine gate_dst (N := 2) rfl ?_); refine box_event ?hg (N := 2) ?hd (cs := #[.int .i64 a0_0, .int .i64 a0_1, .int .i64 a0_2, .int .i64 a0_3, .slice A0_4 l0_4.length c0_4, .slice A0_5 l0_5.length c0_5, .slice A0_6 l0_6.length c0_6]) (t := 78) ?hr ?_; (case hd => rfl); (case hg => rfl); (case hr => first | (go_simp; done) | (go_simp; rfl)); intro gb313 hg w18 hbox hb; have n0_ := A0s.mk (below_step (by repeat (first | (with_reducible first | exact HB.out | apply bA | apply bN | apply bD) | exact HB.out)) hb); have n1_ := A0s.mk (hbox); have n2_ := A0s.mk ((by rw [hg]; exact (below_size (by repeat (first | (with_reducible first | exact HB.out | apply bA | apply bN | apply bD) | exact HB.out))) : w.heap.size ≤ gb313)); have n3_ := A0s.mk ((by rw [hg]; exact (below_size (by repeat (first | (with_reducible first | exact HB.out | apply bA | apply bN | apply bD) | exact HB.out))) : w.heap.size ≤ gb313)); clear HB; have HB := n0_; have BK313 := n1_; have GW313 := n2_; have GE313 := n3_; clear n0_ n1_ n2_ n3_; clear hb hbox hg) | ((with_reducible refine gate_dst (N := 3) rfl ?_); refine box_event ?hg (N := 3) ?hd (cs := #[.int .i64 a1_0, .int .i64 a1_1, .bool a1_2, .int .i64 a1_3, .int .i64 a1_4, .int .i64 a1_5, .int .i64 a1_6]) (t := 23) ?hr ?_; (case hd => rfl); (case hg => rfl); (case hr => first | (go_simp; done) | (go_simp; rfl)); intro gb314 hg w19 hbox hb; have n0_ := A0s.mk (blk_below (g := gb313) (o := .cells #[.int .i64 a0_0, .int .i64 a0_1, .int .i64 a0_2, .int .i64 a0_3, .slice A0_4 l0_4.length c0_4, .slice A0_5 l0_5.length c0_5, .slice A0_6 l0_6.length c0_6] 78 (0, 0)) (by (with_reducible repeat (first | apply kN | apply kD | apply kA)); exact BK313.out) hb); have n1_ := A0s.mk (below_step (by repeat (first | (with_reducible first | exact HB.out | apply bA | apply bN | apply bD | refine bS ?_ GE313.out) | exact HB.out)) hb); have n2_ := A0s.mk (hbox); have n3_ := A0s.mk ((by rw [hg]; exact (below_size (by repeat (first | (with_reducible first | exact HB.out | apply bA | apply bN | apply bD | refine bS ?_ GE313.out) | exact HB.out))) : w.heap.size ≤ gb314)); have n4_ := A0s.mk ((by rw [hg]; exact (below_size (by repeat (first | (with_reducible first | exact HB.out | apply bA | apply bN | apply bD | refine bS ?_ GE313.out) | exact HB.out))) : w.heap.size ≤ gb314)); have n5_ := A0s.mk ((by rw [hg]; exact Nat.ne_of_lt (blk_lt (g := gb313) (o := .cells #[.int .i64 a0_0, .int .i64 a0_1, .int .i64 a0_2, .int .i64 a0_3, .slice A0_4 l0_4.length c0_4, .slice A0_5 l0_5.length c0_5, .slice A0_6 l0_6.length c0_6] 78 (0, 0)) (by (with_reducible repeat (first | apply kN | apply kD | apply kA)); exact BK313.out)) : gb313 ≠ gb314)); have n6_ := A0s.mk ((by rw [hg]; exact Nat.ne_of_gt (blk_lt (g := gb313) (o := .cells #[.int .i64 a0_0, .int .i64 a0_1, .int .i64 a0_2, .int .i64 a0_3, .slice A0_4 l0_4.length c0_4, .slice A0_5 l0_5.length c0_5, .slice A0_6 l0_6.length c0_6] 78 (0, 0)) (by (with_reducible repeat (first | apply kN | apply kD | apply kA)); exact BK313.out)) : gb314 ≠ gb313)); clear BK313; clear HB; have BK313 := n0_; have HB := n1_; have BK314 := n2_; have GW314 := n3_; have GE314 := n4_; have NB313_314 := n5_; have NB314_313 := n6_; clear n0_ n1_ n2_ n3_ n4_ n5_ n6_; clear hb hbox hg; have hnb20 := NB313_314.out; have hnc20 := NB314_313.out; obtain ⟨hcz21_0, hcz21_1, hcz21_2, hcz21_3, hcz21_4, hcz21_5, hcz21_6, hfz21_0, hfz21_1, hfz21_2, hfz21_3, hfz21_4, hfz21_5, hfz21_6⟩ := blk_all7 BK313.out) | ((with_reducible refine gC (f := 49) rfl ?_); refine gL (some 12) rfl rfl Try.func49 (by kernel_rfl) rfl #[.agg #[.int .i64 a0_0, .int .i64 a0_1, .int .i64 a0_2, .int .i64 a0_3, .slice A0_4 l0_4.length c0_4, .slice A0_5 l0_5.length c0_5, .slice A0_6 l0_6.length c0_6]] rfl (by (try simp only [List.map_toArray, List.map_cons, List.map_nil]); first | done | rfl | (simp only [List.length_drop, List.length_take]; rfl)) ?_; (with_reducible refine (stopgatelaw05_few.calls a0_0 a0_1 a0_2 a0_3 (fun k_ => k_ < w.heap.size) _ _ l0_4 (fun k_ => k_ < w.heap.size) _ _ l0_5 (fun k_ => k_ < w.heap.size) _ _ l0_6 t315 t316 t317 t318 t319 t322 t325 _ ?side1 ?side2 ?side3 A3.out).mono ?_); (case side1 => exact Kd.V_mk HC0_4.out (Kd.F_below (Kd.C_F k176_heap HR0_4.out) (by repeat (first | (with_reducible first | exact HB.out | apply bA | apply bN | apply bD | refine bS ?_ GE313.out | refine bS ?_ GE314.out) | exact HB.out)))); (case side2 => exact Kd.V_mk HC0_5.out (Kd.F_below (Kd.C_F (Kd.heap_int .i64) HR0_5.out) (by repeat (first | (with_reducible first | exact HB.out | apply bA | apply bN | apply bD | refine bS ?_ GE313.out | refine bS ?_ GE314.out) | exact HB.out)))); (case side3 => exact Kd.V_mk HC0_6.out (Kd.F_below (Kd.C_F k145_heap HR0_6.out) (by repeat (first | (with_reducible first | exact HB.out | apply bA | apply bN | apply bD | refine bS ?_ GE313.out | refine bS ?_ GE314.out) | exact HB.out)))); rintro e w22 ⟨v320, v323, v326, rfl, ho0, ho1, ho2, hb⟩; refine ⟨_, rfl, ?_⟩; have n0_ := A0s.mk (Kd.V_lower (Kd.V_mono (ok' := fun k_ => k_ ≠ gb313 ∧ k_ ≠ gb314) ho0 (fun k_ hk_ => ⟨Or.elim hk_ (fun hs_ => Or.elim hs_ (fun hs_ => fun e_ => Nat.not_le.2 hs_ (by rw [e_]; exact GW313.out)) (fun hs_ => Or.elim hs_ (fun hs_ => fun e_ => Nat.not_le.2 hs_ (by rw [e_]; exact GW313.out)) (fun hs_ => fun e_ => Nat.not_le.2 hs_ (by rw [e_]; exact GW313.out)))) (fun hn_ => (Kd.freshB (g := gb313) (o := .cells #[.int .i64 a0_0, .int .i64 a0_1, .int .i64 a0_2, .int .i64 a0_3, .slice A0_4 l0_4.length c0_4, .slice A0_5 l0_5.length c0_5, .slice A0_6 l0_6.length c0_6] 78 (0, 0)) (by (with_reducible repeat (first | apply kN | apply kD | apply kA)); exact BK313.out) k_ hn_)), Or.elim hk_ (fun hs_ => Or.elim hs_ (fun hs_ => fun e_ => Nat.not_le.2 hs_ (by rw [e_]; exact GW314.out)) (fun hs_ => Or.elim hs_ (fun hs_ => fun e_ => Nat.not_le.2 hs_ (by rw [e_]; exact GW314.out)) (fun hs_ => fun e_ => Nat.not_le.2 hs_ (by rw [e_]; exact GW314.out)))) (fun hn_ => (Kd.freshB (g := gb314) (o := .cells #[.int .i64 a1_0, .int .i64 a1_1, .bool a1_2, .int .i64 a1_3, .int .i64 a1_4, .int .i64 a1_5, .int .i64 a1_6] 23 (0, 0)) (by (with_reducible repeat (first | apply kN | apply kD | apply kA)); exact BK314.out) k_ hn_))⟩)) (below_size (by repeat (first | (with_reducible first | exact HB.out | apply bA | apply bN | apply bD | refine bS ?_ GE313.out | refine bS ?_ GE314.out) | exact HB.out)))); have n1_ := A0s.mk (Kd.V_lower (Kd.V_mono (ok' := fun k_ => k_ ≠ gb313 ∧ k_ ≠ gb314) ho1 (fun k_ hk_ => ⟨Or.elim hk_ (fun hs_ => Or.elim hs_ (fun hs_ => fun e_ => Nat.not_le.2 hs_ (by rw [e_]; exact GW313.out)) (fun hs_ => Or.elim hs_ (fun hs_ => fun e_ => Nat.not_le.2 hs_ (by rw [e_]; exact GW313.out)) (fun hs_ => fun e_ => Nat.not_le.2 hs_ (by rw [e_]; exact GW313.out)))) (fun hn_ => (Kd.freshB (g := gb313) (o := .cells #[.int .i64 a0_0, .int .i64 a0_1, .int .i64 a0_2, .int .i64 a0_3, .slice A0_4 l0_4.length c0_4, .slice A0_5 l0_5.length c0_5, .slice A0_6 l0_6.length c0_6] 78 (0, 0)) (by (with_reducible repeat (first | apply kN | apply kD | apply kA)); exact BK313.out) k_ hn_)), Or.elim hk_ (fun hs_ => Or.elim hs_ (fun hs_ => fun e_ => Nat.not_le.2 hs_ (by rw [e_]; exact GW314.out)) (fun hs_ => Or.elim hs_ (fun hs_ => fun e_ => Nat.not_le.2 hs_ (by rw [e_]; exact GW314.out)) (fun hs_ => fun e_ => Nat.not_le.2 hs_ (by rw [e_]; exact GW314.out)))) (fun hn_ => (Kd.freshB (g := gb314) (o := .cells #[.int .i64 a1_0, .int .i64 a1_1, .bool a1_2, .int .i64 a1_3, .int .i64 a1_4, .int .i64 a1_5, .int .i64 a1_6] 23 (0, 0)) (by (with_reducible repeat (first | apply kN | apply kD | apply kA)); exact BK314.out) k_ hn_))⟩)) (below_size (by repeat (first | (with_reducible first | exact HB.out | apply bA | apply bN | apply bD | refine bS ?_ GE313.out | refine bS ?_ GE314.out) | exact HB.out)))); have n2_ := A0s.mk (Kd.V_lower (Kd.V_mono (ok' := fun k_ => k_ ≠ gb313 ∧ k_ ≠ gb314) ho2 (fun k_ hk_ => ⟨Or.elim hk_ (fun hs_ => Or.elim hs_ (fun hs_ => fun e_ => Nat.not_le.2 hs_ (by rw [e_]; exact GW313.out)) (fun hs_ => Or.elim hs_ (fun hs_ => fun e_ => Nat.not_le.2 hs_ (by rw [e_]; exact GW313.out)) (fun hs_ => fun e_ => Nat.not_le.2 hs_ (by rw [e_]; exact GW313.out)))) (fun hn_ => (Kd.freshB (g := gb313) (o := .cells #[.int .i64 a0_0, .int .i64 a0_1, .int .i64 a0_2, .int .i64 a0_3, .slice A0_4 l0_4.length c0_4, .slice A0_5 l0_5.length c0_5, .slice A0_6 l0_6.length c0_6] 78 (0, 0)) (by (with_reducible repeat (first | apply kN | apply kD | apply kA)); exact BK313.out) k_ hn_)), Or.elim hk_ (fun hs_ => Or.elim hs_ (fun hs_ => fun e_ => Nat.not_le.2 hs_ (by rw [e_]; exact GW314.out)) (fun hs_ => Or.elim hs_ (fun hs_ => fun e_ => Nat.not_le.2 hs_ (by rw [e_]; exact GW314.out)) (fun hs_ => fun e_ => Nat.not_le.2 hs_ (by rw [e_]; exact GW314.out)))) (fun hn_ => (Kd.freshB (g := gb314) (o := .cells #[.int .i64 a1_0, .int .i64 a1_1, .bool a1_2, .int .i64 a1_3, .int .i64 a1_4, .int .i64 a1_5, .int .i64 a1_6] 23 (0, 0)) (by (with_reducible repeat (first | apply kN | apply kD | apply kA)); exact BK314.out) k_ hn_))⟩)) (below_size (by repeat (first | (with_reducible first | exact HB.out | apply bA | apply bN | apply bD | refine bS ?_ GE313.out | refine bS ?_ GE314.out) | exact HB.out)))); have n3_ := A0s.mk (blk_below (g := gb313) (o := .cells #[.int .i64 a0_0, .int .i64 a0_1, .int .i64 a0_2, .int .i64 a0_3, .slice A0_4 l0_4.length c0_4, .slice A0_5 l0_5.length c0_5, .slice A0_6 l0_6.length c0_6] 78 (0, 0)) (by (with_reducible repeat (first | apply kN | apply kD | apply kA)); exact BK313.out) hb); have n4_ := A0s.mk (blk_below (g := gb314) (o := .cells #[.int .i64 a1_0, .int .i64 a1_1, .bool a1_2, .int .i64 a1_3, .int .i64 a1_4, .int .i64 a1_5, .int .i64 a1_6] 23 (0, 0)) (by (with_reducible repeat (first | apply kN | apply kD | apply kA)); exact BK314.out) hb); have n5_ := A0s.mk (below_step (by repeat (first | (with_reducible first | exact HB.out | apply bA | apply bN | apply bD | refine bS ?_ GE313.out | refine bS ?_ GE314.out) | exact HB.out)) hb); clear BK313; clear BK314; clear HB; have HO321 := n0_; have HO324 := n1_; have HO327 := n2_; have BK313 := n3_; have BK314 := n4_; have HB := n5_; clear n0_ n1_ n2_ n3_ n4_ n5_; (try clear hb); (try clear hb2); (try clear hk); (try clear hi); (try clear ho0); (try clear ho1); (try clear ho2); obtain ⟨Ao23, co23, eo23⟩ := Kd.V_slice HO321.out; subst eo23; obtain ⟨Ao24, co24, eo24⟩ := Kd.V_slice HO324.out; subst eo24; obtain ⟨Ao25, co25, eo25⟩ := Kd.V_slice HO327.out; subst eo25) | ((with_reducible refine gC (f := 41) rfl ?_); refine gL (some 13) rfl rfl Try.func41 (by kernel_rfl) rfl #[.agg #[.int .i64 t315, .int .i64 t316, .int .i64 t317, .int .i64 t318, .slice Ao23 t319.length co23, .slice Ao24 t322.length co24, .slice Ao25 t325.length co25]] rfl (by (try simp only [List.map_toArray, List.map_cons, List.map_nil]); first | done | rfl | (simp only [List.length_drop, List.length_take]; rfl)) ?_; (with_reducible refine (stopgatelaw05_Ref.calls k t315 t316 t317 t318 (fun k_ => (k_ ≠ gb313 ∧ k_ ≠ gb314)) _ _ t319 (fun k_ => (k_ ≠ gb313 ∧ k_ ≠ gb314)) _ _ t322 _ _ t325 t328 t329 t330 t331 t332 t335 t338 _ ?side1 ?side2 ?side3 ?side4 A4.out).mono ?_); (case side1 => exact HO321.out); (case side2 => exact HO324.out); (case side3 => repeat (first | exact (Kd.V_reads' HO327.out).2.2 | (with_reducible refine Kd.C_alloc ?_ _) | (with_reducible refine Kd.C_drewN ?_ _) | (with_reducible refine Kd.C_drew ?_))); (case side4 => exact (Kd.V_reads' HO327.out).2.1); rintro e w26 ⟨v333, v336, v339, rfl, ho0, ho1, ho2, hb⟩; refine ⟨_, rfl, ?_⟩; have n0_ := A0s.mk (Kd.V_elder' (by (with_reducible repeat (first | apply Kd.V_alloc | apply Kd.V_drewN | apply Kd.V_drew)); exact HO321.out) (Kd.R_base ho2) hb); have n1_ := A0s.mk (Kd.V_elder' (by (with_reducible repeat (first | apply Kd.V_alloc | apply Kd.V_drewN | apply Kd.V_drew)); exact HO324.out) (Kd.R_base ho2) hb); have n2_ := A0s.mk (Kd.V_elder' (by (with_reducible repeat (first | apply Kd.V_alloc | apply Kd.V_drewN | apply Kd.V_drew)); exact HO327.out) (Kd.R_base ho2) hb); have n3_ := A0s.mk (Kd.V_lower (Kd.V_mono (ok' := fun k_ => some k_ ≠ (v339 : Value).ownBlock ∧ k_ ≠ gb313 ∧ k_ ≠ gb314) ho0 (fun k_ hk_ => ⟨hk_.2, Or.elim hk_.1 (fun hs_ => Or.elim hs_ (fun hs_ => hs_.1) (fun hs_ => hs_.1)) (fun hn_ => (Kd.freshB (g := gb313) (o := .cells #[.int .i64 a0_0, .int .i64 a0_1, .int .i64 a0_2, .int .i64 a0_3, .slice A0_4 l0_4.length c0_4, .slice A0_5 l0_5.length c0_5, .slice A0_6 l0_6.length c0_6] 78 (0, 0)) (by (with_reducible repeat (first | apply kN | apply kD | apply kA)); exact BK313.out) k_ hn_)), Or.elim hk_.1 (fun hs_ => Or.elim hs_ (fun hs_ => hs_.2) (fun hs_ => hs_.2)) (fun hn_ => (Kd.freshB (g := gb314) (o := .cells #[.int .i64 a1_0, .int .i64 a1_1, .bool a1_2, .int .i64 a1_3, .int .i64 a1_4, .int .i64 a1_5, .int .i64 a1_6] 23 (0, 0)) (by (with_reducible repeat (first | apply kN | apply kD | apply kA)); exact BK314.out) k_ hn_))⟩)) (below_size (by repeat (first | (with_reducible first | exact HB.out | apply bA | apply bN | apply bD | refine bS ?_ GE313.out | refine bS ?_ GE314.out) | exact HB.out)))); have n4_ := A0s.mk (Kd.V_lower (Kd.V_mono (ok' := fun k_ => some k_ ≠ (v339 : Value).ownBlock ∧ k_ ≠ gb313 ∧ k_ ≠ gb314) ho1 (fun k_ hk_ => ⟨hk_.2, Or.elim hk_.1 (fun hs_ => Or.elim hs_ (fun hs_ => hs_.1) (fun hs_ => hs_.1)) (fun hn_ => (Kd.freshB (g := gb313) (o := .cells #[.int .i64 a0_0, .int .i64 a0_1, .int .i64 a0_2, .int .i64 a0_3, .slice A0_4 l0_4.length c0_4, .slice A0_5 l0_5.length c0_5, .slice A0_6 l0_6.length c0_6] 78 (0, 0)) (by (with_reducible repeat (first | apply kN | apply kD | apply kA)); exact BK313.out) k_ hn_)), Or.elim hk_.1 (fun hs_ => Or.elim hs_ (fun hs_ => hs_.2) (fun hs_ => hs_.2)) (fun hn_ => (Kd.freshB (g := gb314) (o := .cells #[.int .i64 a1_0, .int .i64 a1_1, .bool a1_2, .int .i64 a1_3, .int .i64 a1_4, .int .i64 a1_5, .int .i64 a1_6] 23 (0, 0)) (by (with_reducible repeat (first | apply kN | apply kD | apply kA)); exact BK314.out) k_ hn_))⟩)) (below_size (by repeat (first | (with_reducible first | exact HB.out | apply bA | apply bN | apply bD | refine bS ?_ GE313.out | refine bS ?_ GE314.out) | exact HB.out)))); have n5_ := A0s.mk (Kd.R_lower (Kd.R_mono (ok' := fun k_ => True) ho2 (fun _ hk_ => trivial)) (below_size (by repeat (first | (with_reducible first | exact HB.out | apply bA | apply bN | apply bD | refine bS ?_ GE313.out | refine bS ?_ GE314.out) | exact HB.out)))); have n6_ := A0s.mk (blk_below (g := gb313) (o := .cells #[.int .i64 a0_0, .int .i64 a0_1, .int .i64 a0_2, .int .i64 a0_3, .slice A0_4 l0_4.length c0_4, .slice A0_5 l0_5.length c0_5, .slice A0_6 l0_6.length c0_6] 78 (0, 0)) (by (with_reducible repeat (first | apply kN | apply kD | apply kA)); exact BK313.out) hb); have n7_ := A0s.mk (blk_below (g := gb314) (o := .cells #[.int .i64 a1_0, .int .i64 a1_1, .bool a1_2, .int .i64 a1_3, .int .i64 a1_4, .int .i64 a1_5, .int .i64 a1_6] 23 (0, 0)) (by (with_reducible repeat (first | apply kN | apply kD | apply kA)); exact BK314.out) hb); have n8_ := A0s.mk (below_step (by repeat (first | (with_reducible first | exact HB.out | apply bA | apply bN | apply bD | refine bS ?_ GE313.out | refine bS ?_ GE314.out) | exact HB.out)) hb); clear HO321; clear HO324; clear HO327; clear BK313; clear BK314; clear HB; have HO321 := n0_; have HO324 := n1_; have HO327 := n2_; have HO334 := n3_; have HO337 := n4_; have HO340 := n5_; have BK313 := n6_; have BK314 := n7_; have HB := n8_; clear n0_ n1_ n2_ n3_ n4_ n5_ n6_ n7_ n8_; (try clear hb); (try clear hb2); (try clear hk); (try clear hi); (try clear ho0); (try clear ho1); (try clear ho2); obtain ⟨Ao27, co27, eo27⟩ := Kd.V_slice HO334.out; subst eo27; obtain ⟨Ao28, co28, eo28⟩ := Kd.V_slice HO337.out; subst eo28; obtain ⟨Ao29, co29, eo29⟩ := Kd.R_slice HO340.out; subst eo29) | ((with_reducible refine gC (f := 40) rfl ?_); refine gL (some 14) rfl rfl Try.func40 (by kernel_rfl) rfl #[.agg #[.int .i64 t328, .int .i64 t329, .int .i64 t330, .int .i64 t331, .slice Ao27 t332.length co27, .slice Ao28 t335.length co28, .slice Ao29 t338.length co29]] rfl (by (try simp only [List.map_toArray, List.map_cons, List.map_nil]); first | done | rfl | (simp only [List.length_drop, List.length_take]; rfl)) ?_; (with_reducible refine (stopgateref05_Fix.calls k t328 t329 t330 t331 _ _ t332 _ _ t335 _ _ t338 t341 t342 t343 t344 t345 t348 t351 _ ?side1 ?side2 ?side3 ?side4 ?side5 ?side6 A5.out).mono ?_); (case side1 => repeat (first | exact (Kd.V_reads' HO334.out).2.2 | (with_reducible refine Kd.C_alloc ?_ _) | (with_reducible refine Kd.C_drewN ?_ _) | (with_reducible refine Kd.C_drew ?_))); (case side2 => exact (Kd.V_reads' HO334.out).2.1); (case side3 => repeat (first | exact (Kd.V_reads' HO337.out).2.2 | (with_reducible refine Kd.C_alloc ?_ _) | (with_reducible refine Kd.C_drewN ?_ _) | (with_reducible refine Kd.C_drew ?_))); (case side4 => exact (Kd.V_reads' HO337.out).2.1); (case side5 => repeat (first | exact (Kd.R_reads' HO340.out).2.2 | (with_reducible refine Kd.C_alloc ?_ _) | (with_reducible refine Kd.C_drewN ?_ _) | (with_reducible refine Kd.C_drew ?_))); (case side6 => exact (Kd.R_reads' HO340.out).2.1); rintro e w30 ⟨v346, v349, v352, rfl, ho0, ho1, ho2, hb⟩; refine ⟨_, rfl, ?_⟩; have n0_ := A0s.mk (Kd.V_mono (Kd.V_told (Kd.V_told (Kd.V_told (Kd.V_old (by (with_reducible repeat (first | apply Kd.V_alloc | apply Kd.V_drewN | apply Kd.V_drew)); exact HO321.out) hb) (Kd.R_base ho0)) (Kd.R_base ho1)) (Kd.R_base ho2)) (fun _ h_ => h_.1)); have n1_ := A0s.mk (Kd.V_mono (Kd.V_told (Kd.V_told (Kd.V_told (Kd.V_old (by (with_reducible repeat (first | apply Kd.V_alloc | apply Kd.V_drewN | apply Kd.V_drew)); exact HO324.out) hb) (Kd.R_base ho0)) (Kd.R_base ho1)) (Kd.R_base ho2)) (fun _ h_ => h_.1)); have n2_ := A0s.mk (Kd.V_mono (Kd.V_told (Kd.V_told (Kd.V_told (Kd.V_old (by (with_reducible repeat (first | apply Kd.V_alloc | apply Kd.V_drewN | apply Kd.V_drew)); exact HO327.out) hb) (Kd.R_base ho0)) (Kd.R_base ho1)) (Kd.R_base ho2)) (fun _ h_ => h_.1)); have n3_ := A0s.mk (Kd.V_mono (Kd.V_told (Kd.V_told (Kd.V_told (Kd.V_old (by (with_reducible repeat (first | apply Kd.V_alloc | apply Kd.V_drewN | apply Kd.V_drew)); exact HO334.out) hb) (Kd.R_base ho0)) (Kd.R_base ho1)) (Kd.R_base ho2)) (fun _ h_ => h_.1)); have n4_ := A0s.mk (Kd.V_mono (Kd.V_told (Kd.V_told (Kd.V_told (Kd.V_old (by (with_reducible repeat (first | apply Kd.V_alloc | apply Kd.V_drewN | apply Kd.V_drew)); exact HO337.out) hb) (Kd.R_base ho0)) (Kd.R_base ho1)) (Kd.R_base ho2)) (fun _ h_ => h_.1)); have n5_ := A0s.mk (Kd.R_elder' (by (with_reducible repeat (first | apply Kd.RA | apply Kd.RN | apply Kd.RD)); exact HO340.out) (Kd.R_base ho2) hb); have n6_ := A0s.mk (Kd.R_lower ho0 (below_size (by repeat (first | (with_reducible first | exact HB.out | apply bA | apply bN | apply bD | refine bS ?_ GE313.out | refine bS ?_ GE314.out) | exact HB.out)))); have n7_ := A0s.mk (Kd.R_lower ho1 (below_size (by repeat (first | (with_reducible first | exact HB.out | apply bA | apply bN | apply bD | refine bS ?_ GE313.out | refine bS ?_ GE314.out) | exact HB.out)))); have n8_ := A0s.mk (Kd.R_lower (Kd.R_new' ho2 (Kd.R_lt (by (with_reducible repeat (first | apply Kd.RA | apply Kd.RN | apply Kd.RD)); exact HO340.out))) (below_size (by repeat (first | (with_reducible first | exact HB.out | apply bA | apply bN | apply bD | refine bS ?_ GE313.out | refine bS ?_ GE314.out) | exact HB.out)))); have n9_ := A0s.mk (blk_below (g := gb313) (o := .cells #[.int .i64 a0_0, .int .i64 a0_1, .int .i64 a0_2, .int .i64 a0_3, .slice A0_4 l0_4.length c0_4, .slice A0_5 l0_5.length c0_5, .slice A0_6 l0_6.length c0_6] 78 (0, 0)) (by (with_reducible repeat (first | apply kN | apply kD | apply kA)); exact BK313.out) hb); have n10_ := A0s.mk (blk_below (g := gb314) (o := .cells #[.int .i64 a1_0, .int .i64 a1_1, .bool a1_2, .int .i64 a1_3, .int .i64 a1_4, .int .i64 a1_5, .int .i64 a1_6] 23 (0, 0)) (by (with_reducible repeat (first | apply kN | apply kD | apply kA)); exact BK314.out) hb); have n11_ := A0s.mk (below_step (by repeat (first | (with_reducible first | exact HB.out | apply bA | apply bN | apply bD | refine bS ?_ GE313.out | refine bS ?_ GE314.out) | exact HB.out)) hb); clear HO321; clear HO324; clear HO327; clear HO334; clear HO337; clear HO340; clear BK313; clear BK314; clear HB; have HO321 := n0_; have HO324 := n1_; have HO327 := n2_; have HO334 := n3_; have HO337 := n4_; have HO340 := n5_; have HO347 := n6_; have HO350 := n7_; have HO353 := n8_; have BK313 := n9_; have BK314 := n10_; have HB := n11_; clear n0_ n1_ n2_ n3_ n4_ n5_ n6_ n7_ n8_ n9_ n10_ n11_; (try clear hb); (try clear hb2); (try clear hk); (try clear hi); (try clear ho0); (try clear ho1); (try clear ho2)) | ((with_reducible refine gate_dst (N := 5) rfl ?_); refine box_event ?hg (N := 5) ?hd (cs := #[.int .i64 0, .int .i64 0, .int .i64 0, .int .i64 0, .slice none 0 0, .slice none 0 0, .slice none 0 0]) (t := 81) ?hr ?_; (case hd => rfl); (case hg => rfl); (case hr => first | (go_simp; done) | (go_simp; rfl)); intro gb354 hg w31 hbox hb; have n0_ := A0s.mk (Kd.V_below (Kd.V_elderB (by (with_reducible repeat (first | apply Kd.V_alloc | apply Kd.V_drewN | apply Kd.V_drew)); exact HO321.out) gb354 (Nat.le_of_eq hg.symm)) hb); have n1_ := A0s.mk (Kd.V_below (Kd.V_elderB (by (with_reducible repeat (first | apply Kd.V_alloc | apply Kd.V_drewN | apply Kd.V_drew)); exact HO324.out) gb354 (Nat.le_of_eq hg.symm)) hb); have n2_ := A0s.mk (Kd.V_below (Kd.V_elderB (by (with_reducible repeat (first | apply Kd.V_alloc | apply Kd.V_drewN | apply Kd.V_drew)); exact HO327.out) gb354 (Nat.le_of_eq hg.symm)) hb); have n3_ := A0s.mk (Kd.V_below (Kd.V_elderB (by (with_reducible repeat (first | apply Kd.V_alloc | apply Kd.V_drewN | apply Kd.V_drew)); exact HO334.out) gb354 (Nat.le_of_eq hg.symm)) hb); have n4_ := A0s.mk (Kd.V_below (Kd.V_elderB (by (with_reducible repeat (first | apply Kd.V_alloc | apply Kd.V_drewN | apply Kd.V_drew)); exact HO337.out) gb354 (Nat.le_of_eq hg.symm)) hb); have n5_ := A0s.mk (Kd.R_below (by (with_reducible repeat (first | apply Kd.RA | apply Kd.RN | apply Kd.RD)); exact HO340.out) hb); have n6_ := A0s.mk (Kd.R_below (by (with_reducible repeat (first | apply Kd.RA | apply Kd.RN | apply Kd.RD)); exact HO347.out) hb); have n7_ := A0s.mk (Kd.R_below (by (with_reducible repeat (first | apply Kd.RA | apply Kd.RN | apply Kd.RD)); exact HO350.out) hb); have n8_ := A0s.mk (Kd.R_below (by (with_reducible repeat (first | apply Kd.RA | apply Kd.RN | apply Kd.RD)); exact HO353.out) hb); have n9_ := A0s.mk (blk_below (g := gb313) (o := .cells #[.int .i64 a0_0, .int .i64 a0_1, .int .i64 a0_2, .int .i64 a0_3, .slice A0_4 l0_4.length c0_4, .slice A0_5 l0_5.length c0_5, .slice A0_6 l0_6.length c0_6] 78 (0, 0)) (by (with_reducible repeat (first | apply kN | apply kD | apply kA)); exact BK313.out) hb); have n10_ := A0s.mk (blk_below (g := gb314) (o := .cells #[.int .i64 a1_0, .int .i64 a1_1, .bool a1_2, .int .i64 a1_3, .int .i64 a1_4, .int .i64 a1_5, .int .i64 a1_6] 23 (0, 0)) (by (with_reducible repeat (first | apply kN | apply kD | apply kA)); exact BK314.out) hb); have n11_ := A0s.mk (below_step (by repeat (first | (with_reducible first | exact HB.out | apply bA | apply bN | apply bD | refine bS ?_ GE313.out | refine bS ?_ GE314.out) | exact HB.out)) hb); have n12_ := A0s.mk (hbox); have n13_ := A0s.mk ((by rw [hg]; exact (below_size (by repeat (first | (with_reducible first | exact HB.out | apply bA | apply bN | apply bD | refine bS ?_ GE313.out | refine bS ?_ GE314.out) | exact HB.out))) : w.heap.size ≤ gb354)); have n14_ := A0s.mk ((by rw [hg]; exact (below_size (by repeat (first | (with_reducible first | exact HB.out | apply bA | apply bN | apply bD | refine bS ?_ GE313.out | refine bS ?_ GE314.out) | exact HB.out))) : w.heap.size ≤ gb354)); have n15_ := A0s.mk ((by rw [hg]; exact Nat.ne_of_lt (blk_lt (g := gb313) (o := .cells #[.int .i64 a0_0, .int .i64 a0_1, .int .i64 a0_2, .int .i64 a0_3, .slice A0_4 l0_4.length c0_4, .slice A0_5 l0_5.length c0_5, .slice A0_6 l0_6.length c0_6] 78 (0, 0)) (by (with_reducible repeat (first | apply kN | apply kD | apply kA)); exact BK313.out)) : gb313 ≠ gb354)); have n16_ := A0s.mk ((by rw [hg]; exact Nat.ne_of_gt (blk_lt (g := gb313) (o := .cells #[.int .i64 a0_0, .int .i64 a0_1, .int .i64 a0_2, .int .i64 a0_3, .slice A0_4 l0_4.length c0_4, .slice A0_5 l0_5.length c0_5, .slice A0_6 l0_6.length c0_6] 78 (0, 0)) (by (with_reducible repeat (first | apply kN | apply kD | apply kA)); exact BK313.out)) : gb354 ≠ gb313)); have n17_ := A0s.mk ((by rw [hg]; exact Nat.ne_of_lt (blk_lt (g := gb314) (o := .cells #[.int .i64 a1_0, .int .i64 a1_1, .bool a1_2, .int .i64 a1_3, .int .i64 a1_4, .int .i64 a1_5, .int .i64 a1_6] 23 (0, 0)) (by (with_reducible repeat (first | apply kN | apply kD | apply kA)); exact BK314.out)) : gb314 ≠ gb354)); have n18_ := A0s.mk ((by rw [hg]; exact Nat.ne_of_gt (blk_lt (g := gb314) (o := .cells #[.int .i64 a1_0, .int .i64 a1_1, .bool a1_2, .int .i64 a1_3, .int .i64 a1_4, .int .i64 a1_5, .int .i64 a1_6] 23 (0, 0)) (by (with_reducible repeat (first | apply kN | apply kD | apply kA)); exact BK314.out)) : gb354 ≠ gb314)); clear HO321; clear HO324; clear HO327; clear HO334; clear HO337; clear HO340; clear HO347; clear HO350; clear HO353; clear BK313; clear BK314; clear HB; have HO321 := n0_; have HO324 := n1_; have HO327 := n2_; have HO334 := n3_; have HO337 := n4_; have HO340 := n5_; have HO347 := n6_; have HO350 := n7_; have HO353 := n8_; have BK313 := n9_; have BK314 := n10_; have HB := n11_; have BK354 := n12_; have GW354 := n13_; have GE354 := n14_; have NB313_354 := n15_; have NB354_313 := n16_; have NB314_354 := n17_; have NB354_314 := n18_; clear n0_ n1_ n2_ n3_ n4_ n5_ n6_ n7_ n8_ n9_ n10_ n11_ n12_ n13_ n14_ n15_ n16_ n17_ n18_; clear hb hbox hg; have hnb32 := NB354_313.out; have hnc32 := NB313_354.out; have hnb33 := NB354_314.out; have hnc33 := NB314_354.out; obtain ⟨hcz34_0, hcz34_1, hcz34_2, hcz34_3, hcz34_4, hcz34_5, hcz34_6, hfz34_0, hfz34_1, hfz34_2, hfz34_3, hfz34_4, hfz34_5, hfz34_6⟩ := blk_all7 BK354.out; obtain ⟨Ao35, co35, eo35⟩ := Kd.R_slice HO347.out; subst eo35; obtain ⟨Ao36, co36, eo36⟩ := Kd.R_slice HO350.out; subst eo36; obtain ⟨Ao37, co37, eo37⟩ := Kd.R_slice HO353.out; subst eo37) | ((with_reducible refine gC (f := 42) rfl ?_); refine gL (some 16) rfl rfl Try.func42 (by kernel_rfl) rfl #[.agg #[.int .i64 t341, .int .i64 t342, .int .i64 t343, .int .i64 t344, .slice Ao35 t345.length co35, .slice Ao36 t348.length co36, .slice Ao37 t351.length co37]] rfl (by (try simp only [List.map_toArray, List.map_cons, List.map_nil]); first | done | rfl | (simp only [List.length_drop, List.length_take]; rfl)) ?_; (with_reducible refine (stopgatelaw05_To.calls k t341 t342 t343 t344 _ _ t345 _ _ t348 _ _ t351 t355 t356 t357 t358 t359 t362 t365 _ ?side1 ?side2 ?side3 ?side4 ?side5 ?side6 A6.out).mono ?_); (case side1 => refine (Kd.R_reads' (e := 176) (base := w.heap.size) (ok := fun k_ => True) (n := t345.length) (c := co35) ?_).2.2; exact (by (with_reducible repeat (first | apply Kd.RA | apply Kd.RN | apply Kd.RD)); exact (Kd.R_mono (Kd.R_far (p := ⟨gb354, 6, none⟩) (Kd.R_far (p := ⟨gb354, 5, none⟩) (Kd.R_far (p := ⟨gb354, 4, none⟩) (Kd.R_far (p := ⟨gb354, 3, none⟩) (Kd.R_far (p := ⟨gb354, 2, none⟩) (Kd.R_far (p := ⟨gb354, 1, none⟩) (Kd.R_far (p := ⟨gb354, 0, none⟩) (Kd.R_types HO347.out BK354.out (by decide)) (fun _ hk => hk.2) (.int .i64 t341)) (fun _ hk => hk.2) (.int .i64 t342)) (fun _ hk => hk.2) (.int .i64 t343)) (fun _ hk => hk.2) (.int .i64 t344)) (fun _ hk => hk.2) (.slice Ao35 t345.length co35)) (fun _ hk => hk.2) (.slice Ao36 t348.length co36)) (fun _ hk => hk.2) (.slice Ao37 t351.length co37)) (fun _ h_ => h_.1)))); (case side2 => exact (Kd.R_reads' HO347.out).2.1); (case side3 => refine (Kd.R_reads' (e := 3) (base := w.heap.size) (ok := fun k_ => True) (n := t348.length) (c := co36) ?_).2.2; exact (by (with_reducible repeat (first | apply Kd.RA | apply Kd.RN | apply Kd.RD)); exact (Kd.R_mono (Kd.R_far (p := ⟨gb354, 6, none⟩) (Kd.R_far (p := ⟨gb354, 5, none⟩) (Kd.R_far (p := ⟨gb354, 4, none⟩) (Kd.R_far (p := ⟨gb354, 3, none⟩) (Kd.R_far (p := ⟨gb354, 2, none⟩) (Kd.R_far (p := ⟨gb354, 1, none⟩) (Kd.R_far (p := ⟨gb354, 0, none⟩) (Kd.R_types HO350.out BK354.out (by decide)) (fun _ hk => hk.2) (.int .i64 t341)) (fun _ hk => hk.2) (.int .i64 t342)) (fun _ hk => hk.2) (.int .i64 t343)) (fun _ hk => hk.2) (.int .i64 t344)) (fun _ hk => hk.2) (.slice Ao35 t345.length co35)) (fun _ hk => hk.2) (.slice Ao36 t348.length co36)) (fun _ hk => hk.2) (.slice Ao37 t351.length co37)) (fun _ h_ => h_.1)))); (case side4 => exact (Kd.R_reads' HO350.out).2.1); (case side5 => refine (Kd.R_reads' (e := 86) (base := w.heap.size) (ok := fun k_ => (True ∧ some k_ ≠ (.slice Ao29 t338.length co29 : Value).ownBlock)) (n := t351.length) (c := co37) ?_).2.2; exact (by (with_reducible repeat (first | apply Kd.RA | apply Kd.RN | apply Kd.RD)); exact (Kd.R_mono (Kd.R_far (p := ⟨gb354, 6, none⟩) (Kd.R_far (p := ⟨gb354, 5, none⟩) (Kd.R_far (p := ⟨gb354, 4, none⟩) (Kd.R_far (p := ⟨gb354, 3, none⟩) (Kd.R_far (p := ⟨gb354, 2, none⟩) (Kd.R_far (p := ⟨gb354, 1, none⟩) (Kd.R_far (p := ⟨gb354, 0, none⟩) (Kd.R_types HO353.out BK354.out (by decide)) (fun _ hk => hk.2) (.int .i64 t341)) (fun _ hk => hk.2) (.int .i64 t342)) (fun _ hk => hk.2) (.int .i64 t343)) (fun _ hk => hk.2) (.int .i64 t344)) (fun _ hk => hk.2) (.slice Ao35 t345.length co35)) (fun _ hk => hk.2) (.slice Ao36 t348.length co36)) (fun _ hk => hk.2) (.slice Ao37 t351.length co37)) (fun _ h_ => h_.1)))); (case side6 => exact (Kd.R_reads' HO353.out).2.1); rintro e w38 ⟨v360, v363, v366, rfl, ho0, ho1, ho2, hb⟩; refine ⟨_, rfl, ?_⟩; have n0_ := A0s.mk (Kd.V_mono (Kd.V_told (Kd.V_told (Kd.V_told (Kd.V_old (by (with_reducible repeat (first | apply Kd.V_alloc | apply Kd.V_drewN | apply Kd.V_drew)); exact (Kd.V_mono (Kd.V_far (p := ⟨gb354, 6, none⟩) (Kd.V_far (p := ⟨gb354, 5, none⟩) (Kd.V_far (p := ⟨gb354, 4, none⟩) (Kd.V_far (p := ⟨gb354, 3, none⟩) (Kd.V_far (p := ⟨gb354, 2, none⟩) (Kd.V_far (p := ⟨gb354, 1, none⟩) (Kd.V_far (p := ⟨gb354, 0, none⟩) (Kd.V_mono HO321.out (fun k_ hk => (⟨hk, hk.2⟩ : _ ∧ k_ ≠ gb354))) (fun _ hk => hk.2) (.int .i64 t341)) (fun _ hk => hk.2) (.int .i64 t342)) (fun _ hk => hk.2) (.int .i64 t343)) (fun _ hk => hk.2) (.int .i64 t344)) (fun _ hk => hk.2) (.slice Ao35 t345.length co35)) (fun _ hk => hk.2) (.slice Ao36 t348.length co36)) (fun _ hk => hk.2) (.slice Ao37 t351.length co37)) (fun _ h_ => h_.1))) hb) (Kd.R_base ho0)) (Kd.R_base ho1)) (Kd.R_base ho2)) (fun _ h_ => h_.1)); have n1_ := A0s.mk (Kd.V_mono (Kd.V_told (Kd.V_told (Kd.V_told (Kd.V_old (by (with_reducible repeat (first | apply Kd.V_alloc | apply Kd.V_drewN | apply Kd.V_drew)); exact (Kd.V_mono (Kd.V_far (p := ⟨gb354, 6, none⟩) (Kd.V_far (p := ⟨gb354, 5, none⟩) (Kd.V_far (p := ⟨gb354, 4, none⟩) (Kd.V_far (p := ⟨gb354, 3, none⟩) (Kd.V_far (p := ⟨gb354, 2, none⟩) (Kd.V_far (p := ⟨gb354, 1, none⟩) (Kd.V_far (p := ⟨gb354, 0, none⟩) (Kd.V_mono HO324.out (fun k_ hk => (⟨hk, hk.2⟩ : _ ∧ k_ ≠ gb354))) (fun _ hk => hk.2) (.int .i64 t341)) (fun _ hk => hk.2) (.int .i64 t342)) (fun _ hk => hk.2) (.int .i64 t343)) (fun _ hk => hk.2) (.int .i64 t344)) (fun _ hk => hk.2) (.slice Ao35 t345.length co35)) (fun _ hk => hk.2) (.slice Ao36 t348.length co36)) (fun _ hk => hk.2) (.slice Ao37 t351.length co37)) (fun _ h_ => h_.1))) hb) (Kd.R_base ho0)) (Kd.R_base ho1)) (Kd.R_base ho2)) (fun _ h_ => h_.1)); have n2_ := A0s.mk (Kd.V_mono (Kd.V_told (Kd.V_told (Kd.V_told (Kd.V_old (by (with_reducible repeat (first | apply Kd.V_alloc | apply Kd.V_drewN | apply Kd.V_drew)); exact (Kd.V_mono (Kd.V_far (p := ⟨gb354, 6, none⟩) (Kd.V_far (p := ⟨gb354, 5, none⟩) (Kd.V_far (p := ⟨gb354, 4, none⟩) (Kd.V_far (p := ⟨gb354, 3, none⟩) (Kd.V_far (p := ⟨gb354, 2, none⟩) (Kd.V_far (p := ⟨gb354, 1, none⟩) (Kd.V_far (p := ⟨gb354, 0, none⟩) (Kd.V_mono HO327.out (fun k_ hk => (⟨hk, hk.2⟩ : _ ∧ k_ ≠ gb354))) (fun _ hk => hk.2) (.int .i64 t341)) (fun _ hk => hk.2) (.int .i64 t342)) (fun _ hk => hk.2) (.int .i64 t343)) (fun _ hk => hk.2) (.int .i64 t344)) (fun _ hk => hk.2) (.slice Ao35 t345.length co35)) (fun _ hk => hk.2) (.slice Ao36 t348.length co36)) (fun _ hk => hk.2) (.slice Ao37 t351.length co37)) (fun _ h_ => h_.1))) hb) (Kd.R_base ho0)) (Kd.R_base ho1)) (Kd.R_base ho2)) (fun _ h_ => h_.1)); have n3_ := A0s.mk (Kd.V_mono (Kd.V_told (Kd.V_told (Kd.V_told (Kd.V_old (by (with_reducible repeat (first | apply Kd.V_alloc | apply Kd.V_drewN | apply Kd.V_drew)); exact (Kd.V_mono (Kd.V_far (p := ⟨gb354, 6, none⟩) (Kd.V_far (p := ⟨gb354, 5, none⟩) (Kd.V_far (p := ⟨gb354, 4, none⟩) (Kd.V_far (p := ⟨gb354, 3, none⟩) (Kd.V_far (p := ⟨gb354, 2, none⟩) (Kd.V_far (p := ⟨gb354, 1, none⟩) (Kd.V_far (p := ⟨gb354, 0, none⟩) (Kd.V_mono HO334.out (fun k_ hk => (⟨hk, hk.2⟩ : _ ∧ k_ ≠ gb354))) (fun _ hk => hk.2) (.int .i64 t341)) (fun _ hk => hk.2) (.int .i64 t342)) (fun _ hk => hk.2) (.int .i64 t343)) (fun _ hk => hk.2) (.int .i64 t344)) (fun _ hk => hk.2) (.slice Ao35 t345.length co35)) (fun _ hk => hk.2) (.slice Ao36 t348.length co36)) (fun _ hk => hk.2) (.slice Ao37 t351.length co37)) (fun _ h_ => h_.1))) hb) (Kd.R_base ho0)) (Kd.R_base ho1)) (Kd.R_base ho2)) (fun _ h_ => h_.1)); have n4_ := A0s.mk (Kd.V_mono (Kd.V_told (Kd.V_told (Kd.V_told (Kd.V_old (by (with_reducible repeat (first | apply Kd.V_alloc | apply Kd.V_drewN | apply Kd.V_drew)); exact (Kd.V_mono (Kd.V_far (p := ⟨gb354, 6, none⟩) (Kd.V_far (p := ⟨gb354, 5, none⟩) (Kd.V_far (p := ⟨gb354, 4, none⟩) (Kd.V_far (p := ⟨gb354, 3, none⟩) (Kd.V_far (p := ⟨gb354, 2, none⟩) (Kd.V_far (p := ⟨gb354, 1, none⟩) (Kd.V_far (p := ⟨gb354, 0, none⟩) (Kd.V_mono HO337.out (fun k_ hk => (⟨hk, hk.2⟩ : _ ∧ k_ ≠ gb354))) (fun _ hk => hk.2) (.int .i64 t341)) (fun _ hk => hk.2) (.int .i64 t342)) (fun _ hk => hk.2) (.int .i64 t343)) (fun _ hk => hk.2) (.int .i64 t344)) (fun _ hk => hk.2) (.slice Ao35 t345.length co35)) (fun _ hk => hk.2) (.slice Ao36 t348.length co36)) (fun _ hk => hk.2) (.slice Ao37 t351.length co37)) (fun _ h_ => h_.1))) hb) (Kd.R_base ho0)) (Kd.R_base ho1)) (Kd.R_base ho2)) (fun _ h_ => h_.1)); have n5_ := A0s.mk (Kd.R_below (by (with_reducible repeat (first | apply Kd.RA | apply Kd.RN | apply Kd.RD)); exact (Kd.R_mono (Kd.R_far (p := ⟨gb354, 6, none⟩) (Kd.R_far (p := ⟨gb354, 5, none⟩) (Kd.R_far (p := ⟨gb354, 4, none⟩) (Kd.R_far (p := ⟨gb354, 3, none⟩) (Kd.R_far (p := ⟨gb354, 2, none⟩) (Kd.R_far (p := ⟨gb354, 1, none⟩) (Kd.R_far (p := ⟨gb354, 0, none⟩) (Kd.R_types HO340.out BK354.out (by decide)) (fun _ hk => hk.2) (.int .i64 t341)) (fun _ hk => hk.2) (.int .i64 t342)) (fun _ hk => hk.2) (.int .i64 t343)) (fun _ hk => hk.2) (.int .i64 t344)) (fun _ hk => hk.2) (.slice Ao35 t345.length co35)) (fun _ hk => hk.2) (.slice Ao36 t348.length co36)) (fun _ hk => hk.2) (.slice Ao37 t351.length co37)) (fun _ h_ => h_.1))) hb); have n6_ := A0s.mk (Kd.R_below (by (with_reducible repeat (first | apply Kd.RA | apply Kd.RN | apply Kd.RD)); exact (Kd.R_mono (Kd.R_far (p := ⟨gb354, 6, none⟩) (Kd.R_far (p := ⟨gb354, 5, none⟩) (Kd.R_far (p := ⟨gb354, 4, none⟩) (Kd.R_far (p := ⟨gb354, 3, none⟩) (Kd.R_far (p := ⟨gb354, 2, none⟩) (Kd.R_far (p := ⟨gb354, 1, none⟩) (Kd.R_far (p := ⟨gb354, 0, none⟩) (Kd.R_types HO347.out BK354.out (by decide)) (fun _ hk => hk.2) (.int .i64 t341)) (fun _ hk => hk.2) (.int .i64 t342)) (fun _ hk => hk.2) (.int .i64 t343)) (fun _ hk => hk.2) (.int .i64 t344)) (fun _ hk => hk.2) (.slice Ao35 t345.length co35)) (fun _ hk => hk.2) (.slice Ao36 t348.length co36)) (fun _ hk => hk.2) (.slice Ao37 t351.length co37)) (fun _ h_ => h_.1))) hb); have n7_ := A0s.mk (Kd.R_elder' (by (with_reducible repeat (first | apply Kd.RA | apply Kd.RN | apply Kd.RD)); exact (Kd.R_mono (Kd.R_far (p := ⟨gb354, 6, none⟩) (Kd.R_far (p := ⟨gb354, 5, none⟩) (Kd.R_far (p := ⟨gb354, 4, none⟩) (Kd.R_far (p := ⟨gb354, 3, none⟩) (Kd.R_far (p := ⟨gb354, 2, none⟩) (Kd.R_far (p := ⟨gb354, 1, none⟩) (Kd.R_far (p := ⟨gb354, 0, none⟩) (Kd.R_types HO350.out BK354.out (by decide)) (fun _ hk => hk.2) (.int .i64 t341)) (fun _ hk => hk.2) (.int .i64 t342)) (fun _ hk => hk.2) (.int .i64 t343)) (fun _ hk => hk.2) (.int .i64 t344)) (fun _ hk => hk.2) (.slice Ao35 t345.length co35)) (fun _ hk => hk.2) (.slice Ao36 t348.length co36)) (fun _ hk => hk.2) (.slice Ao37 t351.length co37)) (fun _ h_ => h_.1))) (Kd.R_base ho1) hb); have n8_ := A0s.mk (Kd.R_below (by (with_reducible repeat (first | apply Kd.RA | apply Kd.RN | apply Kd.RD)); exact (Kd.R_mono (Kd.R_far (p := ⟨gb354, 6, none⟩) (Kd.R_far (p := ⟨gb354, 5, none⟩) (Kd.R_far (p := ⟨gb354, 4, none⟩) (Kd.R_far (p := ⟨gb354, 3, none⟩) (Kd.R_far (p := ⟨gb354, 2, none⟩) (Kd.R_far (p := ⟨gb354, 1, none⟩) (Kd.R_far (p := ⟨gb354, 0, none⟩) (Kd.R_types HO353.out BK354.out (by decide)) (fun _ hk => hk.2) (.int .i64 t341)) (fun _ hk => hk.2) (.int .i64 t342)) (fun _ hk => hk.2) (.int .i64 t343)) (fun _ hk => hk.2) (.int .i64 t344)) (fun _ hk => hk.2) (.slice Ao35 t345.length co35)) (fun _ hk => hk.2) (.slice Ao36 t348.length co36)) (fun _ hk => hk.2) (.slice Ao37 t351.length co37)) (fun _ h_ => h_.1))) hb); have n9_ := A0s.mk (Kd.R_lower ho0 (below_size (by repeat (first | (with_reducible first | exact HB.out | apply bA | apply bN | apply bD | refine bS ?_ GE313.out | refine bS ?_ GE314.out | refine bS ?_ GE354.out) | exact HB.out)))); have n10_ := A0s.mk (Kd.R_lower (Kd.R_new' ho1 (Kd.R_lt (by (with_reducible repeat (first | apply Kd.RA | apply Kd.RN | apply Kd.RD)); exact (Kd.R_mono (Kd.R_far (p := ⟨gb354, 6, none⟩) (Kd.R_far (p := ⟨gb354, 5, none⟩) (Kd.R_far (p := ⟨gb354, 4, none⟩) (Kd.R_far (p := ⟨gb354, 3, none⟩) (Kd.R_far (p := ⟨gb354, 2, none⟩) (Kd.R_far (p := ⟨gb354, 1, none⟩) (Kd.R_far (p := ⟨gb354, 0, none⟩) (Kd.R_types HO350.out BK354.out (by decide)) (fun _ hk => hk.2) (.int .i64 t341)) (fun _ hk => hk.2) (.int .i64 t342)) (fun _ hk => hk.2) (.int .i64 t343)) (fun _ hk => hk.2) (.int .i64 t344)) (fun _ hk => hk.2) (.slice Ao35 t345.length co35)) (fun _ hk => hk.2) (.slice Ao36 t348.length co36)) (fun _ hk => hk.2) (.slice Ao37 t351.length co37)) (fun _ h_ => h_.1))))) (below_size (by repeat (first | (with_reducible first | exact HB.out | apply bA | apply bN | apply bD | refine bS ?_ GE313.out | refine bS ?_ GE314.out | refine bS ?_ GE354.out) | exact HB.out)))); have n11_ := A0s.mk (Kd.R_lower ho2 (below_size (by repeat (first | (with_reducible first | exact HB.out | apply bA | apply bN | apply bD | refine bS ?_ GE313.out | refine bS ?_ GE314.out | refine bS ?_ GE354.out) | exact HB.out)))); have n12_ := A0s.mk (blk_below (g := gb313) (o := .cells #[.int .i64 a0_0, .int .i64 a0_1, .int .i64 a0_2, .int .i64 a0_3, .slice A0_4 l0_4.length c0_4, .slice A0_5 l0_5.length c0_5, .slice A0_6 l0_6.length c0_6] 78 (0, 0)) (by (with_reducible repeat (first | apply kN | apply kD | apply kA)); refine blk_far ?_ NB313_354.out _; (with_reducible repeat (first | apply kN | apply kD | apply kA)); refine blk_far ?_ NB313_354.out _; (with_reducible repeat (first | apply kN | apply kD | apply kA)); refine blk_far ?_ NB313_354.out _; (with_reducible repeat (first | apply kN | apply kD | apply kA)); refine blk_far ?_ NB313_354.out _; (with_reducible repeat (first | apply kN | apply kD | apply kA)); refine blk_far ?_ NB313_354.out _; (with_reducible repeat (first | apply kN | apply kD | apply kA)); refine blk_far ?_ NB313_354.out _; (with_reducible repeat (first | apply kN | apply kD | apply kA)); refine blk_far ?_ NB313_354.out _; (with_reducible repeat (first | apply kN | apply kD | apply kA)); exact BK313.out) hb); have n13_ := A0s.mk (blk_below (g := gb314) (o := .cells #[.int .i64 a1_0, .int .i64 a1_1, .bool a1_2, .int .i64 a1_3, .int .i64 a1_4, .int .i64 a1_5, .int .i64 a1_6] 23 (0, 0)) (by (with_reducible repeat (first | apply kN | apply kD | apply kA)); refine blk_far ?_ NB314_354.out _; (with_reducible repeat (first | apply kN | apply kD | apply kA)); refine blk_far ?_ NB314_354.out _; (with_reducible repeat (first | apply kN | apply kD | apply kA)); refine blk_far ?_ NB314_354.out _; (with_reducible repeat (first | apply kN | apply kD | apply kA)); refine blk_far ?_ NB314_354.out _; (with_reducible repeat (first | apply kN | apply kD | apply kA)); refine blk_far ?_ NB314_354.out _; (with_reducible repeat (first | apply kN | apply kD | apply kA)); refine blk_far ?_ NB314_354.out _; (with_reducible repeat (first | apply kN | apply kD | apply kA)); refine blk_far ?_ NB314_354.out _; (with_reducible repeat (first | apply kN | apply kD | apply kA)); exact BK314.out) hb); have n14_ := A0s.mk (blk_below (g := gb354) (o := .cells #[.int .i64 t341, .int .i64 t342, .int .i64 t343, .int .i64 t344, .slice Ao35 t345.length co35, .slice Ao36 t348.length co36, .slice Ao37 t351.length co37] 81 (0, 0)) (by (with_reducible repeat (first | apply kN | apply kD | apply kA)); refine blk_put (cs := #[.int .i64 t341, .int .i64 t342, .int .i64 t343, .int .i64 t344, .slice Ao35 t345.length co35, .slice Ao36 t348.length co36, .slice none 0 0]) ?_ 6 _ rfl; (with_reducible repeat (first | apply kN | apply kD | apply kA)); refine blk_put (cs := #[.int .i64 t341, .int .i64 t342, .int .i64 t343, .int .i64 t344, .slice Ao35 t345.length co35, .slice none 0 0, .slice none 0 0]) ?_ 5 _ rfl; (with_reducible repeat (first | apply kN | apply kD | apply kA)); refine blk_put (cs := #[.int .i64 t341, .int .i64 t342, .int .i64 t343, .int .i64 t344, .slice none 0 0, .slice none 0 0, .slice none 0 0]) ?_ 4 _ rfl; (with_reducible repeat (first | apply kN | apply kD | apply kA)); refine blk_put (cs := #[.int .i64 t341, .int .i64 t342, .int .i64 t343, .int .i64 0, .slice none 0 0, .slice none 0 0, .slice none 0 0]) ?_ 3 _ rfl; (with_reducible repeat (first | apply kN | apply kD | apply kA)); refine blk_put (cs := #[.int .i64 t341, .int .i64 t342, .int .i64 0, .int .i64 0, .slice none 0 0, .slice none 0 0, .slice none 0 0]) ?_ 2 _ rfl; (with_reducible repeat (first | apply kN | apply kD | apply kA)); refine blk_put (cs := #[.int .i64 t341, .int .i64 0, .int .i64 0, .int .i64 0, .slice none 0 0, .slice none 0 0, .slice none 0 0]) ?_ 1 _ rfl; (with_reducible repeat (first | apply kN | apply kD | apply kA)); refine blk_put (cs := #[.int .i64 0, .int .i64 0, .int .i64 0, .int .i64 0, .slice none 0 0, .slice none 0 0, .slice none 0 0]) ?_ 0 _ rfl; (with_reducible repeat (first | apply kN | apply kD | apply kA)); exact BK354.out) hb); have n15_ := A0s.mk (below_step (by repeat (first | (with_reducible first | exact HB.out | apply bA | apply bN | apply bD | refine bS ?_ GE313.out | refine bS ?_ GE314.out | refine bS ?_ GE354.out) | exact HB.out)) hb); clear HO321; clear HO324; clear HO327; clear HO334; clear HO337; clear HO340; clear HO347; clear HO350; clear HO353; clear BK313; clear BK314; clear BK354; clear HB; have HO321 := n0_; have HO324 := n1_; have HO327 := n2_; have HO334 := n3_; have HO337 := n4_; have HO340 := n5_; have HO347 := n6_; have HO350 := n7_; have HO353 := n8_; have HO361 := n9_; have HO364 := n10_; have HO367 := n11_; have BK313 := n12_; have BK314 := n13_; have BK354 := n14_; have HB := n15_; clear n0_ n1_ n2_ n3_ n4_ n5_ n6_ n7_ n8_ n9_ n10_ n11_ n12_ n13_ n14_ n15_; (try clear hb); (try clear hb2); (try clear hk); (try clear hi); (try clear ho0); (try clear ho1); (try clear ho2)) | ((with_reducible refine gate_dst (N := 6) rfl ?_); refine box_event ?hg (N := 6) ?hd (cs := #[.int .i64 0, .int .i64 0, .int .i64 0, .int .i64 0, .slice none 0 0, .slice none 0 0, .slice none 0 0]) (t := 90) ?hr ?_; (case hd => rfl); (case hg => rfl); (case hr => first | (go_simp; done) | (go_simp; rfl)); intro gb368 hg w39 hbox hb; have n0_ := A0s.mk (Kd.V_below (Kd.V_elderB (by (with_reducible repeat (first | apply Kd.V_alloc | apply Kd.V_drewN | apply Kd.V_drew)); exact HO321.out) gb368 (Nat.le_of_eq hg.symm)) hb); have n1_ := A0s.mk (Kd.V_below (Kd.V_elderB (by (with_reducible repeat (first | apply Kd.V_alloc | apply Kd.V_drewN | apply Kd.V_drew)); exact HO324.out) gb368 (Nat.le_of_eq hg.symm)) hb); have n2_ := A0s.mk (Kd.V_below (Kd.V_elderB (by (with_reducible repeat (first | apply Kd.V_alloc | apply Kd.V_drewN | apply Kd.V_drew)); exact HO327.out) gb368 (Nat.le_of_eq hg.symm)) hb); have n3_ := A0s.mk (Kd.V_below (Kd.V_elderB (by (with_reducible repeat (first | apply Kd.V_alloc | apply Kd.V_drewN | apply Kd.V_drew)); exact HO334.out) gb368 (Nat.le_of_eq hg.symm)) hb); have n4_ := A0s.mk (Kd.V_below (Kd.V_elderB (by (with_reducible repeat (first | apply Kd.V_alloc | apply Kd.V_drewN | apply Kd.V_drew)); exact HO337.out) gb368 (Nat.le_of_eq hg.symm)) hb); have n5_ := A0s.mk (Kd.R_below (by (with_reducible repeat (first | apply Kd.RA | apply Kd.RN | apply Kd.RD)); exact HO340.out) hb); have n6_ := A0s.mk (Kd.R_below (by (with_reducible repeat (first | apply Kd.RA | apply Kd.RN | apply Kd.RD)); exact HO347.out) hb); have n7_ := A0s.mk (Kd.R_below (by (with_reducible repeat (first | apply Kd.RA | apply Kd.RN | apply Kd.RD)); exact HO350.out) hb); have n8_ := A0s.mk (Kd.R_below (by (with_reducible repeat (first | apply Kd.RA | apply Kd.RN | apply Kd.RD)); exact HO353.out) hb); have n9_ := A0s.mk (Kd.R_below (by (with_reducible repeat (first | apply Kd.RA | apply Kd.RN | apply Kd.RD)); exact HO361.out) hb); have n10_ := A0s.mk (Kd.R_below (by (with_reducible repeat (first | apply Kd.RA | apply Kd.RN | apply Kd.RD)); exact HO364.out) hb); have n11_ := A0s.mk (Kd.R_below (by (with_reducible repeat (first | apply Kd.RA | apply Kd.RN | apply Kd.RD)); exact HO367.out) hb); have n12_ := A0s.mk (blk_below (g := gb313) (o := .cells #[.int .i64 a0_0, .int .i64 a0_1, .int .i64 a0_2, .int .i64 a0_3, .slice A0_4 l0_4.length c0_4, .slice A0_5 l0_5.length c0_5, .slice A0_6 l0_6.length c0_6] 78 (0, 0)) (by (with_reducible repeat (first | apply kN | apply kD | apply kA)); exact BK313.out) hb); have n13_ := A0s.mk (blk_below (g := gb314) (o := .cells #[.int .i64 a1_0, .int .i64 a1_1, .bool a1_2, .int .i64 a1_3, .int .i64 a1_4, .int .i64 a1_5, .int .i64 a1_6] 23 (0, 0)) (by (with_reducible repeat (first | apply kN | apply kD | apply kA)); exact BK314.out) hb); have n14_ := A0s.mk (blk_below (g := gb354) (o := .cells #[.int .i64 t341, .int .i64 t342, .int .i64 t343, .int .i64 t344, .slice Ao35 t345.length co35, .slice Ao36 t348.length co36, .slice Ao37 t351.length co37] 81 (0, 0)) (by (with_reducible repeat (first | apply kN | apply kD | apply kA)); exact BK354.out) hb); have n15_ := A0s.mk (below_step (by repeat (first | (with_reducible first | exact HB.out | apply bA | apply bN | apply bD | refine bS ?_ GE313.out | refine bS ?_ GE314.out | refine bS ?_ GE354.out) | exact HB.out)) hb); have n16_ := A0s.mk (hbox); have n17_ := A0s.mk ((by rw [hg]; exact (below_size (by repeat (first | (with_reducible first | exact HB.out | apply bA | apply bN | apply bD | refine bS ?_ GE313.out | refine bS ?_ GE314.out | refine bS ?_ GE354.out) | exact HB.out))) : w.heap.size ≤ gb368)); have n18_ := A0s.mk ((by rw [hg]; exact (below_size (by repeat (first | (with_reducible first | exact HB.out | apply bA | apply bN | apply bD | refine bS ?_ GE313.out | refine bS ?_ GE314.out | refine bS ?_ GE354.out) | exact HB.out))) : w.heap.size ≤ gb368)); have n19_ := A0s.mk ((by rw [hg]; exact Nat.ne_of_lt (blk_lt (g := gb313) (o := .cells #[.int .i64 a0_0, .int .i64 a0_1, .int .i64 a0_2, .int .i64 a0_3, .slice A0_4 l0_4.length c0_4, .slice A0_5 l0_5.length c0_5, .slice A0_6 l0_6.length c0_6] 78 (0, 0)) (by (with_reducible repeat (first | apply kN | apply kD | apply kA)); exact BK313.out)) : gb313 ≠ gb368)); have n20_ := A0s.mk ((by rw [hg]; exact Nat.ne_of_gt (blk_lt (g := gb313) (o := .cells #[.int .i64 a0_0, .int .i64 a0_1, .int .i64 a0_2, .int .i64 a0_3, .slice A0_4 l0_4.length c0_4, .slice A0_5 l0_5.length c0_5, .slice A0_6 l0_6.length c0_6] 78 (0, 0)) (by (with_reducible repeat (first | apply kN | apply kD | apply kA)); exact BK313.out)) : gb368 ≠ gb313)); have n21_ := A0s.mk ((by rw [hg]; exact Nat.ne_of_lt (blk_lt (g := gb314) (o := .cells #[.int .i64 a1_0, .int .i64 a1_1, .bool a1_2, .int .i64 a1_3, .int .i64 a1_4, .int .i64 a1_5, .int .i64 a1_6] 23 (0, 0)) (by (with_reducible repeat (first | apply kN | apply kD | apply kA)); exact BK314.out)) : gb314 ≠ gb368)); have n22_ := A0s.mk ((by rw [hg]; exact Nat.ne_of_gt (blk_lt (g := gb314) (o := .cells #[.int .i64 a1_0, .int .i64 a1_1, .bool a1_2, .int .i64 a1_3, .int .i64 a1_4, .int .i64 a1_5, .int .i64 a1_6] 23 (0, 0)) (by (with_reducible repeat (first | apply kN | apply kD | apply kA)); exact BK314.out)) : gb368 ≠ gb314)); have n23_ := A0s.mk ((by rw [hg]; exact Nat.ne_of_lt (blk_lt (g := gb354) (o := .cells #[.int .i64 t341, .int .i64 t342, .int .i64 t343, .int .i64 t344, .slice Ao35 t345.length co35, .slice Ao36 t348.length co36, .slice Ao37 t351.length co37] 81 (0, 0)) (by (with_reducible repeat (first | apply kN | apply kD | apply kA)); exact BK354.out)) : gb354 ≠ gb368)); have n24_ := A0s.mk ((by rw [hg]; exact Nat.ne_of_gt (blk_lt (g := gb354) (o := .cells #[.int .i64 t341, .int .i64 t342, .int .i64 t343, .int .i64 t344, .slice Ao35 t345.length co35, .slice Ao36 t348.length co36, .slice Ao37 t351.length co37] 81 (0, 0)) (by (with_reducible repeat (first | apply kN | apply kD | apply kA)); exact BK354.out)) : gb368 ≠ gb354)); clear HO321; clear HO324; clear HO327; clear HO334; clear HO337; clear HO340; clear HO347; clear HO350; clear HO353; clear HO361; clear HO364; clear HO367; clear BK313; clear BK314; clear BK354; clear HB; have HO321 := n0_; have HO324 := n1_; have HO327 := n2_; have HO334 := n3_; have HO337 := n4_; have HO340 := n5_; have HO347 := n6_; have HO350 := n7_; have HO353 := n8_; have HO361 := n9_; have HO364 := n10_; have HO367 := n11_; have BK313 := n12_; have BK314 := n13_; have BK354 := n14_; have HB := n15_; have BK368 := n16_; have GW368 := n17_; have GE368 := n18_; have NB313_368 := n19_; have NB368_313 := n20_; have NB314_368 := n21_; have NB368_314 := n22_; have NB354_368 := n23_; have NB368_354 := n24_; clear n0_ n1_ n2_ n3_ n4_ n5_ n6_ n7_ n8_ n9_ n10_ n11_ n12_ n13_ n14_ n15_ n16_ n17_ n18_ n19_ n20_ n21_ n22_ n23_ n24_; clear hb hbox hg; have hnb40 := NB368_313.out; have hnc40 := NB313_368.out; have hnb41 := NB368_314.out; have hnc41 := NB314_368.out; have hnb42 := NB368_354.out; have hnc42 := NB354_368.out; obtain ⟨hcz43_0, hcz43_1, hcz43_2, hcz43_3, hcz43_4, hcz43_5, hcz43_6, hfz43_0, hfz43_1, hfz43_2, hfz43_3, hfz43_4, hfz43_5, hfz43_6⟩ := blk_all7 BK368.out; obtain ⟨Ao44, co44, eo44⟩ := Kd.R_slice HO361.out; subst eo44; obtain ⟨Ao45, co45, eo45⟩ := Kd.R_slice HO364.out; subst eo45; obtain ⟨Ao46, co46, eo46⟩ := Kd.R_slice HO367.out; subst eo46))
     have n0_ : A0s (Kd.V k176 176 (((((((w39.setCell ⟨gb368, 0, none⟩ (.int .i64 t355)).setCell ⟨gb368, 1, none⟩ (.int .i64 t356)).setCell ⟨gb368, 2, none⟩ (.int .i64 t357)).setCell ⟨gb368, 3, none⟩ (.int .i64 t358)).setCell ⟨gb368, 4, none⟩ (.slice Ao44 t359.length co44)).setCell ⟨gb368, 5, none⟩ (.slice Ao45 t362.length co45)).setCell ⟨gb368, 6, none⟩ (.slice Ao46 t365.length co46)) w.heap.size (fun k_ => some k_ ≠ (.slice Ao29 t338.length co29 : Value).ownBlock ∧ some k_ ≠ (.slice Ao35 t345.length co35 : Value).ownBlock ∧ some k_ ≠ (.slice Ao36 t348.length co36 : Value).ownBlock ∧ some k_ ≠ (.slice Ao37 t351.length co37 : Value).ownBlock ∧ some k_ ≠ (.slice Ao44 t359.length co44 : Value).ownBlock ∧ some k_ ≠ (.slice Ao45 t362.length co45 : Value).ownBlock ∧ some k_ ≠ (.slice Ao46 t365.length co46 : Value).ownBlock ∧ k_ ≠ gb313 ∧ k_ ≠ gb314 ∧ k_ ≠ gb354 ∧ k_ ≠ gb368) (.slice Ao23 t319.length co23) t319) := ⟨by (with_reducible repeat (first | apply Kd.V_alloc | apply Kd.V_drewN | apply Kd.V_drew)); exact Kd.V_mono (Kd.V_far (p := ⟨gb368, 6, none⟩) (Kd.V_far (p := ⟨gb368, 5, none⟩) (Kd.V_far (p := ⟨gb368, 4, none⟩) (Kd.V_far (p := ⟨gb368, 3, none⟩) (Kd.V_far (p := ⟨gb368, 2, none⟩) (Kd.V_far (p := ⟨gb368, 1, none⟩) (Kd.V_far (p := ⟨gb368, 0, none⟩) (Kd.V_mono HO321.out (fun k_ hk => (⟨hk, hk.2⟩ : _ ∧ k_ ≠ gb368))) (fun _ hk => hk.2) (.int .i64 t355)) (fun _ hk => hk.2) (.int .i64 t356)) (fun _ hk => hk.2) (.int .i64 t357)) (fun _ hk => hk.2) (.int .i64 t358)) (fun _ hk => hk.2) (.slice Ao44 t359.length co44)) (fun _ hk => hk.2) (.slice Ao45 t362.length co45)) (fun _ hk => hk.2) (.slice Ao46 t365.length co46)) (fun _ hk => ⟨hk.1.1.1.1.1.1.1.1.1.2, ⟨hk.1.1.1.1.1.1.1.1.2, ⟨hk.1.1.1.1.1.1.1.2, ⟨hk.1.1.1.1.1.1.2, ⟨hk.1.1.1.1.2, ⟨hk.1.1.1.2, ⟨hk.1.1.2, ⟨hk.1.1.1.1.1.1.1.1.1.1.1, ⟨hk.1.1.1.1.1.1.1.1.1.1.2, ⟨hk.1.1.1.1.1.2, hk.1.2⟩⟩⟩⟩⟩⟩⟩⟩⟩⟩)⟩
     have n1_ : A0s (Kd.V (Kd.int .i64) 3 (((((((w39.setCell ⟨gb368, 0, none⟩ (.int .i64 t355)).setCell ⟨gb368, 1, none⟩ (.int .i64 t356)).setCell ⟨gb368, 2, none⟩ (.int .i64 t357)).setCell ⟨gb368, 3, none⟩ (.int .i64 t358)).setCell ⟨gb368, 4, none⟩ (.slice Ao44 t359.length co44)).setCell ⟨gb368, 5, none⟩ (.slice Ao45 t362.length co45)).setCell ⟨gb368, 6, none⟩ (.slice Ao46 t365.length co46)) w.heap.size (fun k_ => some k_ ≠ (.slice Ao29 t338.length co29 : Value).ownBlock ∧ some k_ ≠ (.slice Ao35 t345.length co35 : Value).ownBlock ∧ some k_ ≠ (.slice Ao36 t348.length co36 : Value).ownBlock ∧ some k_ ≠ (.slice Ao37 t351.length co37 : Value).ownBlock ∧ some k_ ≠ (.slice Ao44 t359.length co44 : Value).ownBlock ∧ some k_ ≠ (.slice Ao45 t362.length co45 : Value).ownBlock ∧ some k_ ≠ (.slice Ao46 t365.length co46 : Value).ownBlock ∧ k_ ≠ gb313 ∧ k_ ≠ gb314 ∧ k_ ≠ gb354 ∧ k_ ≠ gb368) (.slice Ao24 t322.length co24) t322) := ⟨by (with_reducible repeat (first | apply Kd.V_alloc | apply Kd.V_drewN | apply Kd.V_drew)); exact Kd.V_mono (Kd.V_far (p := ⟨gb368, 6, none⟩) (Kd.V_far (p := ⟨gb368, 5, none⟩) (Kd.V_far (p := ⟨gb368, 4, none⟩) (Kd.V_far (p := ⟨gb368, 3, none⟩) (Kd.V_far (p := ⟨gb368, 2, none⟩) (Kd.V_far (p := ⟨gb368, 1, none⟩) (Kd.V_far (p := ⟨gb368, 0, none⟩) (Kd.V_mono HO324.out (fun k_ hk => (⟨hk, hk.2⟩ : _ ∧ k_ ≠ gb368))) (fun _ hk => hk.2) (.int .i64 t355)) (fun _ hk => hk.2) (.int .i64 t356)) (fun _ hk => hk.2) (.int .i64 t357)) (fun _ hk => hk.2) (.int .i64 t358)) (fun _ hk => hk.2) (.slice Ao44 t359.length co44)) (fun _ hk => hk.2) (.slice Ao45 t362.length co45)) (fun _ hk => hk.2) (.slice Ao46 t365.length co46)) (fun _ hk => ⟨hk.1.1.1.1.1.1.1.1.1.2, ⟨hk.1.1.1.1.1.1.1.1.2, ⟨hk.1.1.1.1.1.1.1.2, ⟨hk.1.1.1.1.1.1.2, ⟨hk.1.1.1.1.2, ⟨hk.1.1.1.2, ⟨hk.1.1.2, ⟨hk.1.1.1.1.1.1.1.1.1.1.1, ⟨hk.1.1.1.1.1.1.1.1.1.1.2, ⟨hk.1.1.1.1.1.2, hk.1.2⟩⟩⟩⟩⟩⟩⟩⟩⟩⟩)⟩
     have n2_ : A0s (Kd.V k145 145 (((((((w39.setCell ⟨gb368, 0, none⟩ (.int .i64 t355)).setCell ⟨gb368, 1, none⟩ (.int .i64 t356)).setCell ⟨gb368, 2, none⟩ (.int .i64 t357)).setCell ⟨gb368, 3, none⟩ (.int .i64 t358)).setCell ⟨gb368, 4, none⟩ (.slice Ao44 t359.length co44)).setCell ⟨gb368, 5, none⟩ (.slice Ao45 t362.length co45)).setCell ⟨gb368, 6, none⟩ (.slice Ao46 t365.length co46)) w.heap.size (fun k_ => some k_ ≠ (.slice Ao29 t338.length co29 : Value).ownBlock ∧ some k_ ≠ (.slice Ao35 t345.length co35 : Value).ownBlock ∧ some k_ ≠ (.slice Ao36 t348.length co36 : Value).ownBlock ∧ some k_ ≠ (.slice Ao37 t351.length co37 : Value).ownBlock ∧ some k_ ≠ (.slice Ao44 t359.length co44 : Value).ownBlock ∧ some k_ ≠ (.slice Ao45 t362.length co45 : Value).ownBlock ∧ some k_ ≠ (.slice Ao46 t365.length co46 : Value).ownBlock ∧ k_ ≠ gb313 ∧ k_ ≠ gb314 ∧ k_ ≠ gb354 ∧ k_ ≠ gb368) (.slice Ao25 t325.length co25) t325) := ⟨by (with_reducible repeat (first | apply Kd.V_alloc | apply Kd.V_drewN | apply Kd.V_drew)); exact Kd.V_mono (Kd.V_far (p := ⟨gb368, 6, none⟩) (Kd.V_far (p := ⟨gb368, 5, none⟩) (Kd.V_far (p := ⟨gb368, 4, none⟩) (Kd.V_far (p := ⟨gb368, 3, none⟩) (Kd.V_far (p := ⟨gb368, 2, none⟩) (Kd.V_far (p := ⟨gb368, 1, none⟩) (Kd.V_far (p := ⟨gb368, 0, none⟩) (Kd.V_mono HO327.out (fun k_ hk => (⟨hk, hk.2⟩ : _ ∧ k_ ≠ gb368))) (fun _ hk => hk.2) (.int .i64 t355)) (fun _ hk => hk.2) (.int .i64 t356)) (fun _ hk => hk.2) (.int .i64 t357)) (fun _ hk => hk.2) (.int .i64 t358)) (fun _ hk => hk.2) (.slice Ao44 t359.length co44)) (fun _ hk => hk.2) (.slice Ao45 t362.length co45)) (fun _ hk => hk.2) (.slice Ao46 t365.length co46)) (fun _ hk => ⟨hk.1.1.1.1.1.1.1.1.1.2, ⟨hk.1.1.1.1.1.1.1.1.2, ⟨hk.1.1.1.1.1.1.1.2, ⟨hk.1.1.1.1.1.1.2, ⟨hk.1.1.1.1.2, ⟨hk.1.1.1.2, ⟨hk.1.1.2, ⟨hk.1.1.1.1.1.1.1.1.1.1.1, ⟨hk.1.1.1.1.1.1.1.1.1.1.2, ⟨hk.1.1.1.1.1.2, hk.1.2⟩⟩⟩⟩⟩⟩⟩⟩⟩⟩)⟩
     have n3_ : A0s (Kd.V k176 176 (((((((w39.setCell ⟨gb368, 0, none⟩ (.int .i64 t355)).setCell ⟨gb368, 1, none⟩ (.int .i64 t356)).setCell ⟨gb368, 2, none⟩ (.int .i64 t357)).setCell ⟨gb368, 3, none⟩ (.int .i64 t358)).setCell ⟨gb368, 4, none⟩ (.slice Ao44 t359.length co44)).setCell ⟨gb368, 5, none⟩ (.slice Ao45 t362.length co45)).setCell ⟨gb368, 6, none⟩ (.slice Ao46 t365.length co46)) w.heap.size (fun k_ => some k_ ≠ (.slice Ao29 t338.length co29 : Value).ownBlock ∧ some k_ ≠ (.slice Ao35 t345.length co35 : Value).ownBlock ∧ some k_ ≠ (.slice Ao36 t348.length co36 : Value).ownBlock ∧ some k_ ≠ (.slice Ao37 t351.length co37 : Value).ownBlock ∧ some k_ ≠ (.slice Ao44 t359.length co44 : Value).ownBlock ∧ some k_ ≠ (.slice Ao45 t362.length co45 : Value).ownBlock ∧ some k_ ≠ (.slice Ao46 t365.length co46 : Value).ownBlock ∧ k_ ≠ gb313 ∧ k_ ≠ gb314 ∧ k_ ≠ gb354 ∧ k_ ≠ gb368) (.slice Ao27 t332.length co27) t332) := ⟨by (with_reducible repeat (first | apply Kd.V_alloc | apply Kd.V_drewN | apply Kd.V_drew)); exact Kd.V_mono (Kd.V_far (p := ⟨gb368, 6, none⟩) (Kd.V_far (p := ⟨gb368, 5, none⟩) (Kd.V_far (p := ⟨gb368, 4, none⟩) (Kd.V_far (p := ⟨gb368, 3, none⟩) (Kd.V_far (p := ⟨gb368, 2, none⟩) (Kd.V_far (p := ⟨gb368, 1, none⟩) (Kd.V_far (p := ⟨gb368, 0, none⟩) (Kd.V_mono HO334.out (fun k_ hk => (⟨hk, hk.2⟩ : _ ∧ k_ ≠ gb368))) (fun _ hk => hk.2) (.int .i64 t355)) (fun _ hk => hk.2) (.int .i64 t356)) (fun _ hk => hk.2) (.int .i64 t357)) (fun _ hk => hk.2) (.int .i64 t358)) (fun _ hk => hk.2) (.slice Ao44 t359.length co44)) (fun _ hk => hk.2) (.slice Ao45 t362.length co45)) (fun _ hk => hk.2) (.slice Ao46 t365.length co46)) (fun _ hk => ⟨hk.1.1.1.1.1.1.1.1.1.1, ⟨hk.1.1.1.1.1.1.1.1.2, ⟨hk.1.1.1.1.1.1.1.2, ⟨hk.1.1.1.1.1.1.2, ⟨hk.1.1.1.1.2, ⟨hk.1.1.1.2, ⟨hk.1.1.2, ⟨hk.1.1.1.1.1.1.1.1.1.2.1, ⟨hk.1.1.1.1.1.1.1.1.1.2.2, ⟨hk.1.1.1.1.1.2, hk.1.2⟩⟩⟩⟩⟩⟩⟩⟩⟩⟩)⟩
     have n4_ : A0s (Kd.V (Kd.int .i64) 3 (((((((w39.setCell ⟨gb368, 0, none⟩ (.int .i64 t355)).setCell ⟨gb368, 1, none⟩ (.int .i64 t356)).setCell ⟨gb368, 2, none⟩ (.int .i64 t357)).setCell ⟨gb368, 3, none⟩ (.int .i64 t358)).setCell ⟨gb368, 4, none⟩ (.slice Ao44 t359.length co44)).setCell ⟨gb368, 5, none⟩ (.slice Ao45 t362.length co45)).setCell ⟨gb368, 6, none⟩ (.slice Ao46 t365.length co46)) w.heap.size (fun k_ => some k_ ≠ (.slice Ao29 t338.length co29 : Value).ownBlock ∧ some k_ ≠ (.slice Ao35 t345.length co35 : Value).ownBlock ∧ some k_ ≠ (.slice Ao36 t348.length co36 : Value).ownBlock ∧ some k_ ≠ (.slice Ao37 t351.length co37 : Value).ownBlock ∧ some k_ ≠ (.slice Ao44 t359.length co44 : Value).ownBlock ∧ some k_ ≠ (.slice Ao45 t362.length co45 : Value).ownBlock ∧ some k_ ≠ (.slice Ao46 t365.length co46 : Value).ownBlock ∧ k_ ≠ gb313 ∧ k_ ≠ gb314 ∧ k_ ≠ gb354 ∧ k_ ≠ gb368) (.slice Ao28 t335.length co28) t335) := ⟨by (with_reducible repeat (first | apply Kd.V_alloc | apply Kd.V_drewN | apply Kd.V_drew)); exact Kd.V_mono (Kd.V_far (p := ⟨gb368, 6, none⟩) (Kd.V_far (p := ⟨gb368, 5, none⟩) (Kd.V_far (p := ⟨gb368, 4, none⟩) (Kd.V_far (p := ⟨gb368, 3, none⟩) (Kd.V_far (p := ⟨gb368, 2, none⟩) (Kd.V_far (p := ⟨gb368, 1, none⟩) (Kd.V_far (p := ⟨gb368, 0, none⟩) (Kd.V_mono HO337.out (fun k_ hk => (⟨hk, hk.2⟩ : _ ∧ k_ ≠ gb368))) (fun _ hk => hk.2) (.int .i64 t355)) (fun _ hk => hk.2) (.int .i64 t356)) (fun _ hk => hk.2) (.int .i64 t357)) (fun _ hk => hk.2) (.int .i64 t358)) (fun _ hk => hk.2) (.slice Ao44 t359.length co44)) (fun _ hk => hk.2) (.slice Ao45 t362.length co45)) (fun _ hk => hk.2) (.slice Ao46 t365.length co46)) (fun _ hk => ⟨hk.1.1.1.1.1.1.1.1.1.1, ⟨hk.1.1.1.1.1.1.1.1.2, ⟨hk.1.1.1.1.1.1.1.2, ⟨hk.1.1.1.1.1.1.2, ⟨hk.1.1.1.1.2, ⟨hk.1.1.1.2, ⟨hk.1.1.2, ⟨hk.1.1.1.1.1.1.1.1.1.2.1, ⟨hk.1.1.1.1.1.1.1.1.1.2.2, ⟨hk.1.1.1.1.1.2, hk.1.2⟩⟩⟩⟩⟩⟩⟩⟩⟩⟩)⟩
     have n5_ : A0s (Kd.R k86 86 (((((((w39.setCell ⟨gb368, 0, none⟩ (.int .i64 t355)).setCell ⟨gb368, 1, none⟩ (.int .i64 t356)).setCell ⟨gb368, 2, none⟩ (.int .i64 t357)).setCell ⟨gb368, 3, none⟩ (.int .i64 t358)).setCell ⟨gb368, 4, none⟩ (.slice Ao44 t359.length co44)).setCell ⟨gb368, 5, none⟩ (.slice Ao45 t362.length co45)).setCell ⟨gb368, 6, none⟩ (.slice Ao46 t365.length co46)) w.heap.size (fun k_ => some k_ ≠ (.slice Ao37 t351.length co37 : Value).ownBlock) (.slice Ao29 t338.length co29) t338) := ⟨by (with_reducible repeat (first | apply Kd.RA | apply Kd.RN | apply Kd.RD)); exact Kd.R_mono (Kd.R_far (p := ⟨gb368, 6, none⟩) (Kd.R_far (p := ⟨gb368, 5, none⟩) (Kd.R_far (p := ⟨gb368, 4, none⟩) (Kd.R_far (p := ⟨gb368, 3, none⟩) (Kd.R_far (p := ⟨gb368, 2, none⟩) (Kd.R_far (p := ⟨gb368, 1, none⟩) (Kd.R_far (p := ⟨gb368, 0, none⟩) (Kd.R_types HO340.out BK368.out (by decide)) (fun _ hk => hk.2) (.int .i64 t355)) (fun _ hk => hk.2) (.int .i64 t356)) (fun _ hk => hk.2) (.int .i64 t357)) (fun _ hk => hk.2) (.int .i64 t358)) (fun _ hk => hk.2) (.slice Ao44 t359.length co44)) (fun _ hk => hk.2) (.slice Ao45 t362.length co45)) (fun _ hk => hk.2) (.slice Ao46 t365.length co46)) (fun _ hk => hk.1.2)⟩
     have n6_ : A0s (Kd.R k176 176 (((((((w39.setCell ⟨gb368, 0, none⟩ (.int .i64 t355)).setCell ⟨gb368, 1, none⟩ (.int .i64 t356)).setCell ⟨gb368, 2, none⟩ (.int .i64 t357)).setCell ⟨gb368, 3, none⟩ (.int .i64 t358)).setCell ⟨gb368, 4, none⟩ (.slice Ao44 t359.length co44)).setCell ⟨gb368, 5, none⟩ (.slice Ao45 t362.length co45)).setCell ⟨gb368, 6, none⟩ (.slice Ao46 t365.length co46)) w.heap.size (fun _ => True) (.slice Ao35 t345.length co35) t345) := ⟨by (with_reducible repeat (first | apply Kd.RA | apply Kd.RN | apply Kd.RD)); exact Kd.R_mono (Kd.R_far (p := ⟨gb368, 6, none⟩) (Kd.R_far (p := ⟨gb368, 5, none⟩) (Kd.R_far (p := ⟨gb368, 4, none⟩) (Kd.R_far (p := ⟨gb368, 3, none⟩) (Kd.R_far (p := ⟨gb368, 2, none⟩) (Kd.R_far (p := ⟨gb368, 1, none⟩) (Kd.R_far (p := ⟨gb368, 0, none⟩) (Kd.R_types HO347.out BK368.out (by decide)) (fun _ hk => hk.2) (.int .i64 t355)) (fun _ hk => hk.2) (.int .i64 t356)) (fun _ hk => hk.2) (.int .i64 t357)) (fun _ hk => hk.2) (.int .i64 t358)) (fun _ hk => hk.2) (.slice Ao44 t359.length co44)) (fun _ hk => hk.2) (.slice Ao45 t362.length co45)) (fun _ hk => hk.2) (.slice Ao46 t365.length co46)) (fun _ hk => trivial)⟩
     have n7_ : A0s (Kd.R (Kd.int .i64) 3 (((((((w39.setCell ⟨gb368, 0, none⟩ (.int .i64 t355)).setCell ⟨gb368, 1, none⟩ (.int .i64 t356)).setCell ⟨gb368, 2, none⟩ (.int .i64 t357)).setCell ⟨gb368, 3, none⟩ (.int .i64 t358)).setCell ⟨gb368, 4, none⟩ (.slice Ao44 t359.length co44)).setCell ⟨gb368, 5, none⟩ (.slice Ao45 t362.length co45)).setCell ⟨gb368, 6, none⟩ (.slice Ao46 t365.length co46)) w.heap.size (fun k_ => some k_ ≠ (.slice Ao45 t362.length co45 : Value).ownBlock) (.slice Ao36 t348.length co36) t348) := ⟨by (with_reducible repeat (first | apply Kd.RA | apply Kd.RN | apply Kd.RD)); exact Kd.R_mono (Kd.R_far (p := ⟨gb368, 6, none⟩) (Kd.R_far (p := ⟨gb368, 5, none⟩) (Kd.R_far (p := ⟨gb368, 4, none⟩) (Kd.R_far (p := ⟨gb368, 3, none⟩) (Kd.R_far (p := ⟨gb368, 2, none⟩) (Kd.R_far (p := ⟨gb368, 1, none⟩) (Kd.R_far (p := ⟨gb368, 0, none⟩) (Kd.R_types HO350.out BK368.out (by decide)) (fun _ hk => hk.2) (.int .i64 t355)) (fun _ hk => hk.2) (.int .i64 t356)) (fun _ hk => hk.2) (.int .i64 t357)) (fun _ hk => hk.2) (.int .i64 t358)) (fun _ hk => hk.2) (.slice Ao44 t359.length co44)) (fun _ hk => hk.2) (.slice Ao45 t362.length co45)) (fun _ hk => hk.2) (.slice Ao46 t365.length co46)) (fun _ hk => hk.1.2)⟩
     have n8_ : A0s (Kd.R k86 86 (((((((w39.setCell ⟨gb368, 0, none⟩ (.int .i64 t355)).setCell ⟨gb368, 1, none⟩ (.int .i64 t356)).setCell ⟨gb368, 2, none⟩ (.int .i64 t357)).setCell ⟨gb368, 3, none⟩ (.int .i64 t358)).setCell ⟨gb368, 4, none⟩ (.slice Ao44 t359.length co44)).setCell ⟨gb368, 5, none⟩ (.slice Ao45 t362.length co45)).setCell ⟨gb368, 6, none⟩ (.slice Ao46 t365.length co46)) w.heap.size (fun k_ => some k_ ≠ (.slice Ao29 t338.length co29 : Value).ownBlock) (.slice Ao37 t351.length co37) t351) := ⟨by (with_reducible repeat (first | apply Kd.RA | apply Kd.RN | apply Kd.RD)); exact Kd.R_mono (Kd.R_far (p := ⟨gb368, 6, none⟩) (Kd.R_far (p := ⟨gb368, 5, none⟩) (Kd.R_far (p := ⟨gb368, 4, none⟩) (Kd.R_far (p := ⟨gb368, 3, none⟩) (Kd.R_far (p := ⟨gb368, 2, none⟩) (Kd.R_far (p := ⟨gb368, 1, none⟩) (Kd.R_far (p := ⟨gb368, 0, none⟩) (Kd.R_types HO353.out BK368.out (by decide)) (fun _ hk => hk.2) (.int .i64 t355)) (fun _ hk => hk.2) (.int .i64 t356)) (fun _ hk => hk.2) (.int .i64 t357)) (fun _ hk => hk.2) (.int .i64 t358)) (fun _ hk => hk.2) (.slice Ao44 t359.length co44)) (fun _ hk => hk.2) (.slice Ao45 t362.length co45)) (fun _ hk => hk.2) (.slice Ao46 t365.length co46)) (fun _ hk => hk.1.2)⟩
     have n9_ : A0s (Kd.R k178 178 (((((((w39.setCell ⟨gb368, 0, none⟩ (.int .i64 t355)).setCell ⟨gb368, 1, none⟩ (.int .i64 t356)).setCell ⟨gb368, 2, none⟩ (.int .i64 t357)).setCell ⟨gb368, 3, none⟩ (.int .i64 t358)).setCell ⟨gb368, 4, none⟩ (.slice Ao44 t359.length co44)).setCell ⟨gb368, 5, none⟩ (.slice Ao45 t362.length co45)).setCell ⟨gb368, 6, none⟩ (.slice Ao46 t365.length co46)) w.heap.size (fun _ => True) (.slice Ao44 t359.length co44) t359) := ⟨by (with_reducible repeat (first | apply Kd.RA | apply Kd.RN | apply Kd.RD)); exact Kd.R_mono (Kd.R_far (p := ⟨gb368, 6, none⟩) (Kd.R_far (p := ⟨gb368, 5, none⟩) (Kd.R_far (p := ⟨gb368, 4, none⟩) (Kd.R_far (p := ⟨gb368, 3, none⟩) (Kd.R_far (p := ⟨gb368, 2, none⟩) (Kd.R_far (p := ⟨gb368, 1, none⟩) (Kd.R_far (p := ⟨gb368, 0, none⟩) (Kd.R_types HO361.out BK368.out (by decide)) (fun _ hk => hk.2) (.int .i64 t355)) (fun _ hk => hk.2) (.int .i64 t356)) (fun _ hk => hk.2) (.int .i64 t357)) (fun _ hk => hk.2) (.int .i64 t358)) (fun _ hk => hk.2) (.slice Ao44 t359.length co44)) (fun _ hk => hk.2) (.slice Ao45 t362.length co45)) (fun _ hk => hk.2) (.slice Ao46 t365.length co46)) (fun _ hk => trivial)⟩
     have n10_ : A0s (Kd.R (Kd.int .i64) 3 (((((((w39.setCell ⟨gb368, 0, none⟩ (.int .i64 t355)).setCell ⟨gb368, 1, none⟩ (.int .i64 t356)).setCell ⟨gb368, 2, none⟩ (.int .i64 t357)).setCell ⟨gb368, 3, none⟩ (.int .i64 t358)).setCell ⟨gb368, 4, none⟩ (.slice Ao44 t359.length co44)).setCell ⟨gb368, 5, none⟩ (.slice Ao45 t362.length co45)).setCell ⟨gb368, 6, none⟩ (.slice Ao46 t365.length co46)) w.heap.size (fun k_ => some k_ ≠ (.slice Ao36 t348.length co36 : Value).ownBlock) (.slice Ao45 t362.length co45) t362) := ⟨by (with_reducible repeat (first | apply Kd.RA | apply Kd.RN | apply Kd.RD)); exact Kd.R_mono (Kd.R_far (p := ⟨gb368, 6, none⟩) (Kd.R_far (p := ⟨gb368, 5, none⟩) (Kd.R_far (p := ⟨gb368, 4, none⟩) (Kd.R_far (p := ⟨gb368, 3, none⟩) (Kd.R_far (p := ⟨gb368, 2, none⟩) (Kd.R_far (p := ⟨gb368, 1, none⟩) (Kd.R_far (p := ⟨gb368, 0, none⟩) (Kd.R_types HO364.out BK368.out (by decide)) (fun _ hk => hk.2) (.int .i64 t355)) (fun _ hk => hk.2) (.int .i64 t356)) (fun _ hk => hk.2) (.int .i64 t357)) (fun _ hk => hk.2) (.int .i64 t358)) (fun _ hk => hk.2) (.slice Ao44 t359.length co44)) (fun _ hk => hk.2) (.slice Ao45 t362.length co45)) (fun _ hk => hk.2) (.slice Ao46 t365.length co46)) (fun _ hk => hk.1.2)⟩
     have n11_ : A0s (Kd.R k147 147 (((((((w39.setCell ⟨gb368, 0, none⟩ (.int .i64 t355)).setCell ⟨gb368, 1, none⟩ (.int .i64 t356)).setCell ⟨gb368, 2, none⟩ (.int .i64 t357)).setCell ⟨gb368, 3, none⟩ (.int .i64 t358)).setCell ⟨gb368, 4, none⟩ (.slice Ao44 t359.length co44)).setCell ⟨gb368, 5, none⟩ (.slice Ao45 t362.length co45)).setCell ⟨gb368, 6, none⟩ (.slice Ao46 t365.length co46)) w.heap.size (fun _ => True) (.slice Ao46 t365.length co46) t365) := ⟨by (with_reducible repeat (first | apply Kd.RA | apply Kd.RN | apply Kd.RD)); exact Kd.R_mono (Kd.R_far (p := ⟨gb368, 6, none⟩) (Kd.R_far (p := ⟨gb368, 5, none⟩) (Kd.R_far (p := ⟨gb368, 4, none⟩) (Kd.R_far (p := ⟨gb368, 3, none⟩) (Kd.R_far (p := ⟨gb368, 2, none⟩) (Kd.R_far (p := ⟨gb368, 1, none⟩) (Kd.R_far (p := ⟨gb368, 0, none⟩) (Kd.R_types HO367.out BK368.out (by decide)) (fun _ hk => hk.2) (.int .i64 t355)) (fun _ hk => hk.2) (.int .i64 t356)) (fun _ hk => hk.2) (.int .i64 t357)) (fun _ hk => hk.2) (.int .i64 t358)) (fun _ hk => hk.2) (.slice Ao44 t359.length co44)) (fun _ hk => hk.2) (.slice Ao45 t362.length co45)) (fun _ hk => hk.2) (.slice Ao46 t365.length co46)) (fun _ hk => trivial)⟩
     have n12_ : A0s ((((((((w39.setCell ⟨gb368, 0, none⟩ (.int .i64 t355)).setCell ⟨gb368, 1, none⟩ (.int .i64 t356)).setCell ⟨gb368, 2, none⟩ (.int .i64 t357)).setCell ⟨gb368, 3, none⟩ (.int .i64 t358)).setCell ⟨gb368, 4, none⟩ (.slice Ao44 t359.length co44)).setCell ⟨gb368, 5, none⟩ (.slice Ao45 t362.length co45)).setCell ⟨gb368, 6, none⟩ (.slice Ao46 t365.length co46)).heap[gb313]? = some (.cells #[.int .i64 a0_0, .int .i64 a0_1, .int .i64 a0_2, .int .i64 a0_3, .slice A0_4 l0_4.length c0_4, .slice A0_5 l0_5.length c0_5, .slice A0_6 l0_6.length c0_6] 78 (0, 0))) := ⟨by (with_reducible repeat (first | apply kN | apply kD | apply kA)); refine blk_far ?_ NB313_368.out _; (with_reducible repeat (first | apply kN | apply kD | apply kA)); refine blk_far ?_ NB313_368.out _; (with_reducible repeat (first | apply kN | apply kD | apply kA)); refine blk_far ?_ NB313_368.out _; (with_reducible repeat (first | apply kN | apply kD | apply kA)); refine blk_far ?_ NB313_368.out _; (with_reducible repeat (first | apply kN | apply kD | apply kA)); refine blk_far ?_ NB313_368.out _; (with_reducible repeat (first | apply kN | apply kD | apply kA)); refine blk_far ?_ NB313_368.out _; (with_reducible repeat (first | apply kN | apply kD | apply kA)); refine blk_far ?_ NB313_368.out _; (with_reducible repeat (first | apply kN | apply kD | apply kA)); exact BK313.out⟩
     have n13_ : A0s ((((((((w39.setCell ⟨gb368, 0, none⟩ (.int .i64 t355)).setCell ⟨gb368, 1, none⟩ (.int .i64 t356)).setCell ⟨gb368, 2, none⟩ (.int .i64 t357)).setCell ⟨gb368, 3, none⟩ (.int .i64 t358)).setCell ⟨gb368, 4, none⟩ (.slice Ao44 t359.length co44)).setCell ⟨gb368, 5, none⟩ (.slice Ao45 t362.length co45)).setCell ⟨gb368, 6, none⟩ (.slice Ao46 t365.length co46)).heap[gb314]? = some (.cells #[.int .i64 a1_0, .int .i64 a1_1, .bool a1_2, .int .i64 a1_3, .int .i64 a1_4, .int .i64 a1_5, .int .i64 a1_6] 23 (0, 0))) := ⟨by (with_reducible repeat (first | apply kN | apply kD | apply kA)); refine blk_far ?_ NB314_368.out _; (with_reducible repeat (first | apply kN | apply kD | apply kA)); refine blk_far ?_ NB314_368.out _; (with_reducible repeat (first | apply kN | apply kD | apply kA)); refine blk_far ?_ NB314_368.out _; (with_reducible repeat (first | apply kN | apply kD | apply kA)); refine blk_far ?_ NB314_368.out _; (with_reducible repeat (first | apply kN | apply kD | apply kA)); refine blk_far ?_ NB314_368.out _; (with_reducible repeat (first | apply kN | apply kD | apply kA)); refine blk_far ?_ NB314_368.out _; (with_reducible repeat (first | apply kN | apply kD | apply kA)); refine blk_far ?_ NB314_368.out _; (with_reducible repeat (first | apply kN | apply kD | apply kA)); exact BK314.out⟩
     have n14_ : A0s ((((((((w39.setCell ⟨gb368, 0, none⟩ (.int .i64 t355)).setCell ⟨gb368, 1, none⟩ (.int .i64 t356)).setCell ⟨gb368, 2, none⟩ (.int .i64 t357)).setCell ⟨gb368, 3, none⟩ (.int .i64 t358)).setCell ⟨gb368, 4, none⟩ (.slice Ao44 t359.length co44)).setCell ⟨gb368, 5, none⟩ (.slice Ao45 t362.length co45)).setCell ⟨gb368, 6, none⟩ (.slice Ao46 t365.length co46)).heap[gb354]? = some (.cells #[.int .i64 t341, .int .i64 t342, .int .i64 t343, .int .i64 t344, .slice Ao35 t345.length co35, .slice Ao36 t348.length co36, .slice Ao37 t351.length co37] 81 (0, 0))) := ⟨by (with_reducible repeat (first | apply kN | apply kD | apply kA)); refine blk_far ?_ NB354_368.out _; (with_reducible repeat (first | apply kN | apply kD | apply kA)); refine blk_far ?_ NB354_368.out _; (with_reducible repeat (first | apply kN | apply kD | apply kA)); refine blk_far ?_ NB354_368.out _; (with_reducible repeat (first | apply kN | apply kD | apply kA)); refine blk_far ?_ NB354_368.out _; (with_reducible repeat (first | apply kN | apply kD | apply kA)); refine blk_far ?_ NB354_368.out _; (with_reducible repeat (first | apply kN | apply kD | apply kA)); refine blk_far ?_ NB354_368.out _; (with_reducible repeat (first | apply kN | apply kD | apply kA)); refine blk_far ?_ NB354_368.out _; (with_reducible repeat (first | apply kN | apply kD | apply kA)); exact BK354.out⟩
     have n15_ : A0s ((((((((w39.setCell ⟨gb368, 0, none⟩ (.int .i64 t355)).setCell ⟨gb368, 1, none⟩ (.int .i64 t356)).setCell ⟨gb368, 2, none⟩ (.int .i64 t357)).setCell ⟨gb368, 3, none⟩ (.int .i64 t358)).setCell ⟨gb368, 4, none⟩ (.slice Ao44 t359.length co44)).setCell ⟨gb368, 5, none⟩ (.slice Ao45 t362.length co45)).setCell ⟨gb368, 6, none⟩ (.slice Ao46 t365.length co46)).heap[gb368]? = some (.cells #[.int .i64 t355, .int .i64 t356, .int .i64 t357, .int .i64 t358, .slice Ao44 t359.length co44, .slice Ao45 t362.length co45, .slice Ao46 t365.length co46] 90 (0, 0))) := ⟨by (with_reducible repeat (first | apply kN | apply kD | apply kA)); refine blk_put (cs := #[.int .i64 t355, .int .i64 t356, .int .i64 t357, .int .i64 t358, .slice Ao44 t359.length co44, .slice Ao45 t362.length co45, .slice none 0 0]) ?_ 6 _ rfl; (with_reducible repeat (first | apply kN | apply kD | apply kA)); refine blk_put (cs := #[.int .i64 t355, .int .i64 t356, .int .i64 t357, .int .i64 t358, .slice Ao44 t359.length co44, .slice none 0 0, .slice none 0 0]) ?_ 5 _ rfl; (with_reducible repeat (first | apply kN | apply kD | apply kA)); refine blk_put (cs := #[.int .i64 t355, .int .i64 t356, .int .i64 t357, .int .i64 t358, .slice none 0 0, .slice none 0 0, .slice none 0 0]) ?_ 4 _ rfl; (with_reducible repeat (first | apply kN | apply kD | apply kA)); refine blk_put (cs := #[.int .i64 t355, .int .i64 t356, .int .i64 t357, .int .i64 0, .slice none 0 0, .slice none 0 0, .slice none 0 0]) ?_ 3 _ rfl; (with_reducible repeat (first | apply kN | apply kD | apply kA)); refine blk_put (cs := #[.int .i64 t355, .int .i64 t356, .int .i64 0, .int .i64 0, .slice none 0 0, .slice none 0 0, .slice none 0 0]) ?_ 2 _ rfl; (with_reducible repeat (first | apply kN | apply kD | apply kA)); refine blk_put (cs := #[.int .i64 t355, .int .i64 0, .int .i64 0, .int .i64 0, .slice none 0 0, .slice none 0 0, .slice none 0 0]) ?_ 1 _ rfl; (with_reducible repeat (first | apply kN | apply kD | apply kA)); refine blk_put (cs := #[.int .i64 0, .int .i64 0, .int .i64 0, .int .i64 0, .slice none 0 0, .slice none 0 0, .slice none 0 0]) ?_ 0 _ rfl; (with_reducible repeat (first | apply kN | apply kD | apply kA)); exact BK368.out⟩
     have n16_ : A0s (Below w.heap.size w (((((((w39.setCell ⟨gb368, 0, none⟩ (.int .i64 t355)).setCell ⟨gb368, 1, none⟩ (.int .i64 t356)).setCell ⟨gb368, 2, none⟩ (.int .i64 t357)).setCell ⟨gb368, 3, none⟩ (.int .i64 t358)).setCell ⟨gb368, 4, none⟩ (.slice Ao44 t359.length co44)).setCell ⟨gb368, 5, none⟩ (.slice Ao45 t362.length co45)).setCell ⟨gb368, 6, none⟩ (.slice Ao46 t365.length co46))) := ⟨by repeat (first | (with_reducible first | exact HB.out | apply bA | apply bN | apply bD | refine bS ?_ GE313.out | refine bS ?_ GE314.out | refine bS ?_ GE354.out | refine bS ?_ GE368.out) | exact HB.out)⟩
     (try clear HO321)
     (try clear HO324)
     (try clear HO327)
     (try clear HO334)
     (try clear HO337)
     (try clear HO340)
     (try clear HO347)
     (try clear HO350)
     (try clear HO353)
     (try clear HO361)
     (try clear HO364)
     (try clear HO367)
     (try clear BK313)
     (try clear BK314)
     (try clear BK354)
     (try clear BK368)
     (try clear HB)
     generalize (((((((w39.setCell ⟨gb368, 0, none⟩ (.int .i64 t355)).setCell ⟨gb368, 1, none⟩ (.int .i64 t356)).setCell ⟨gb368, 2, none⟩ (.int .i64 t357)).setCell ⟨gb368, 3, none⟩ (.int .i64 t358)).setCell ⟨gb368, 4, none⟩ (.slice Ao44 t359.length co44)).setCell ⟨gb368, 5, none⟩ (.slice Ao45 t362.length co45)).setCell ⟨gb368, 6, none⟩ (.slice Ao46 t365.length co46)) = w47 at n0_ n1_ n2_ n3_ n4_ n5_ n6_ n7_ n8_ n9_ n10_ n11_ n12_ n13_ n14_ n15_ n16_ ⊢
     have HO321 := n0_
     have HO324 := n1_
     have HO327 := n2_
     have HO334 := n3_
     have HO337 := n4_
     have HO340 := n5_
     have HO347 := n6_
     have HO350 := n7_
     have HO353 := n8_
     have HO361 := n9_
     have HO364 := n10_
     have HO367 := n11_
     have BK313 := n12_
     have BK314 := n13_
     have BK354 := n14_
     have BK368 := n15_
     have HB := n16_
     clear n0_ n1_ n2_ n3_ n4_ n5_ n6_ n7_ n8_ n9_ n10_ n11_ n12_ n13_ n14_ n15_ n16_
     have n0_ := A0s.mk (Kd.V_drew HO321.out)
     have n1_ := A0s.mk (Kd.V_drew HO324.out)
     have n2_ := A0s.mk (Kd.V_drew HO327.out)
     have n3_ := A0s.mk (Kd.V_drew HO334.out)
     have n4_ := A0s.mk (Kd.V_drew HO337.out)
     have n5_ := A0s.mk (Kd.RD HO340.out)
     have n6_ := A0s.mk (Kd.RD HO347.out)
     have n7_ := A0s.mk (Kd.RD HO350.out)
     have n8_ := A0s.mk (Kd.RD HO353.out)
     have n9_ := A0s.mk (Kd.RD HO361.out)
     have n10_ := A0s.mk (Kd.RD HO364.out)
     have n11_ := A0s.mk (Kd.RD HO367.out)
     have n12_ := A0s.mk (kD BK313.out)
     have n13_ := A0s.mk (kD BK314.out)
     have n14_ := A0s.mk (kD BK354.out)
     have n15_ := A0s.mk (kD BK368.out)
     have n16_ := A0s.mk (bD HB.out)
     clear HO321
     clear HO324
     clear HO327
     clear HO334
     clear HO337
     clear HO340
     clear HO347
     clear HO350
     clear HO353
     clear HO361
     clear HO364
     clear HO367
     clear BK313
     clear BK314
     clear BK354
     clear BK368
     clear HB
     have HO321 := n0_
     have HO324 := n1_
     have HO327 := n2_
     have HO334 := n3_
     have HO337 := n4_
     have HO340 := n5_
     have HO347 := n6_
     have HO350 := n7_
     have HO353 := n8_
     have HO361 := n9_
     have HO364 := n10_
     have HO367 := n11_
     have BK313 := n12_
     have BK314 := n13_
     have BK354 := n14_
     have BK368 := n15_
     have HB := n16_
     clear n0_ n1_ n2_ n3_ n4_ n5_ n6_ n7_ n8_ n9_ n10_ n11_ n12_ n13_ n14_ n15_ n16_
     refine start_ (n := 9) (S := fun w' => w'.cell? ⟨gb368, 0, none⟩ = some (.int .i64 t355) ∧ w'.cell? ⟨gb368, 1, none⟩ = some (.int .i64 t356) ∧ w'.cell? ⟨gb368, 2, none⟩ = some (.int .i64 t357) ∧ w'.cell? ⟨gb368, 3, none⟩ = some (.int .i64 t358) ∧ w'.cell? ⟨gb368, 4, none⟩ = some (.slice Ao44 t359.length co44) ∧ w'.cell? ⟨gb368, 5, none⟩ = some (.slice Ao45 t362.length co45) ∧ w'.cell? ⟨gb368, 6, none⟩ = some (.slice Ao46 t365.length co46) ∧ w'.cell? ⟨gb314, 0, none⟩ = some (.int .i64 a1_0) ∧ w'.cell? ⟨gb314, 1, none⟩ = some (.int .i64 a1_1) ∧ w'.cell? ⟨gb314, 2, none⟩ = some (.bool a1_2) ∧ w'.cell? ⟨gb314, 3, none⟩ = some (.int .i64 a1_3) ∧ w'.cell? ⟨gb314, 4, none⟩ = some (.int .i64 a1_4) ∧ w'.cell? ⟨gb314, 5, none⟩ = some (.int .i64 a1_5) ∧ w'.cell? ⟨gb314, 6, none⟩ = some (.int .i64 a1_6)) (ds := []) #[false, false, false, false, false, false, false, false, false] (by kernel_rfl) rfl rfl ⟨(kC BK368.out 0).trans rfl, (kC BK368.out 1).trans rfl, (kC BK368.out 2).trans rfl, (kC BK368.out 3).trans rfl, (kC BK368.out 4).trans rfl, (kC BK368.out 5).trans rfl, (kC BK368.out 6).trans rfl, (kC BK314.out 0).trans rfl, (kC BK314.out 1).trans rfl, (kC BK314.out 2).trans rfl, (kC BK314.out 3).trans rfl, (kC BK314.out 4).trans rfl, (kC BK314.out 5).trans rfl, (kC BK314.out 6).trans rfl⟩ (fun hHeld => ?_); refine with_tabW stopgatelaw05_RulesLooks.tab3 stopgatelaw05_RulesLooks.bits3 (fun HT_ HW_ => ?_)
     generalize w47.drew = w48 at HO321 HO324 HO327 HO334 HO337 HO340 HO347 HO350 HO353 HO361 HO364 HO367 BK313 BK314 BK354 BK368 HB hHeld ⊢
     refine take_ (i := 0) (N := some 18) (v := ?_) (a' := ?_) #[true, false, false, false, false, false, false, false, false] rfl rfl (take_ofW HT_.out HW_.out (by kernel_rfl)) (fun _ _ _ h => h) (Or.inl ⟨by rfl, ?_⟩) hHeld ?_ ?_
     rotate_left
     ·rintro w' ⟨s0, s1, s2, s3, s4, s5, s6, s7, s8, s9, s10, s11, s12, s13⟩
      go_simp
      with_reducible rfl
     rotate_left
     ·simp only [Act.put, List.setIfInBounds_toArray, List.set_cons_zero, List.set_cons_succ, i64_w, i32_w]
      rfl
     refine take_ (i := 1) (N := some 19) (v := ?_) (a' := ?_) #[true, true, false, false, false, false, false, false, false] rfl rfl (take_ofW HT_.out HW_.out (by kernel_rfl)) (fun _ _ _ h => h) (Or.inl ⟨by rfl, ?_⟩) hHeld ?_ ?_
     rotate_left
     ·rintro w' ⟨s0, s1, s2, s3, s4, s5, s6, s7, s8, s9, s10, s11, s12, s13⟩
      go_simp
      with_reducible rfl
     rotate_left
     ·simp only [Act.put, List.setIfInBounds_toArray, List.set_cons_zero, List.set_cons_succ, i64_w, i32_w]
      rfl
     refine one_ (i := 2) (N := some 20) #[true, true, true, false, false, false, false, false, false] rfl rfl (one_of HT_.out (by kernel_rfl)) (by decide) (fun K hK => ?_)
     refine goes_ Try.func44 (by kernel_rfl) rfl #[.agg #[.int .i64 a1_0, .int .i64 a1_1, .bool a1_2, .int .i64 a1_3, .int .i64 a1_4, .int .i64 a1_5, .int .i64 a1_6]] (by rfl) rfl rfl (by (try simp only [List.map_toArray, List.map_cons, List.map_nil]); first | done | rfl | (simp only [List.length_drop, List.length_take]; rfl)) ?_
     with_reducible refine (stopgatelaw05_Order.calls a1_0 a1_1 a1_2 a1_3 a1_4 a1_5 a1_6 t369 t370 t371 t372 t373 t374 t375 _ A7.out).mono ?_
     rintro e w49 ⟨rfl, hb⟩
     refine ⟨_, rfl, ?_⟩
     have n0_ := A0s.mk (Kd.V_below (by (with_reducible repeat (first | apply Kd.V_alloc | apply Kd.V_drewN | apply Kd.V_drew)); exact HO321.out) hb)
     have n1_ := A0s.mk (Kd.V_below (by (with_reducible repeat (first | apply Kd.V_alloc | apply Kd.V_drewN | apply Kd.V_drew)); exact HO324.out) hb)
     have n2_ := A0s.mk (Kd.V_below (by (with_reducible repeat (first | apply Kd.V_alloc | apply Kd.V_drewN | apply Kd.V_drew)); exact HO327.out) hb)
     have n3_ := A0s.mk (Kd.V_below (by (with_reducible repeat (first | apply Kd.V_alloc | apply Kd.V_drewN | apply Kd.V_drew)); exact HO334.out) hb)
     have n4_ := A0s.mk (Kd.V_below (by (with_reducible repeat (first | apply Kd.V_alloc | apply Kd.V_drewN | apply Kd.V_drew)); exact HO337.out) hb)
     have n5_ := A0s.mk (Kd.R_below (by (with_reducible repeat (first | apply Kd.RA | apply Kd.RN | apply Kd.RD)); exact HO340.out) hb)
     have n6_ := A0s.mk (Kd.R_below (by (with_reducible repeat (first | apply Kd.RA | apply Kd.RN | apply Kd.RD)); exact HO347.out) hb)
     have n7_ := A0s.mk (Kd.R_below (by (with_reducible repeat (first | apply Kd.RA | apply Kd.RN | apply Kd.RD)); exact HO350.out) hb)
     have n8_ := A0s.mk (Kd.R_below (by (with_reducible repeat (first | apply Kd.RA | apply Kd.RN | apply Kd.RD)); exact HO353.out) hb)
     have n9_ := A0s.mk (Kd.R_below (by (with_reducible repeat (first | apply Kd.RA | apply Kd.RN | apply Kd.RD)); exact HO361.out) hb)
     have n10_ := A0s.mk (Kd.R_below (by (with_reducible repeat (first | apply Kd.RA | apply Kd.RN | apply Kd.RD)); exact HO364.out) hb)
     have n11_ := A0s.mk (Kd.R_below (by (with_reducible repeat (first | apply Kd.RA | apply Kd.RN | apply Kd.RD)); exact HO367.out) hb)
     have n12_ := A0s.mk (blk_below (g := gb313) (o := .cells #[.int .i64 a0_0, .int .i64 a0_1, .int .i64 a0_2, .int .i64 a0_3, .slice A0_4 l0_4.length c0_4, .slice A0_5 l0_5.length c0_5, .slice A0_6 l0_6.length c0_6] 78 (0, 0)) (by (with_reducible repeat (first | apply kN | apply kD | apply kA)); exact BK313.out) hb)
     have n13_ := A0s.mk (blk_below (g := gb314) (o := .cells #[.int .i64 a1_0, .int .i64 a1_1, .bool a1_2, .int .i64 a1_3, .int .i64 a1_4, .int .i64 a1_5, .int .i64 a1_6] 23 (0, 0)) (by (with_reducible repeat (first | apply kN | apply kD | apply kA)); exact BK314.out) hb)
     have n14_ := A0s.mk (blk_below (g := gb354) (o := .cells #[.int .i64 t341, .int .i64 t342, .int .i64 t343, .int .i64 t344, .slice Ao35 t345.length co35, .slice Ao36 t348.length co36, .slice Ao37 t351.length co37] 81 (0, 0)) (by (with_reducible repeat (first | apply kN | apply kD | apply kA)); exact BK354.out) hb)
     have n15_ := A0s.mk (blk_below (g := gb368) (o := .cells #[.int .i64 t355, .int .i64 t356, .int .i64 t357, .int .i64 t358, .slice Ao44 t359.length co44, .slice Ao45 t362.length co45, .slice Ao46 t365.length co46] 90 (0, 0)) (by (with_reducible repeat (first | apply kN | apply kD | apply kA)); exact BK368.out) hb)
     have n16_ := A0s.mk (below_step (by repeat (first | (with_reducible first | exact HB.out | apply bA | apply bN | apply bD | refine bS ?_ GE313.out | refine bS ?_ GE314.out | refine bS ?_ GE354.out | refine bS ?_ GE368.out) | exact HB.out)) hb)
     clear HO321
     clear HO324
     clear HO327
     clear HO334
     clear HO337
     clear HO340
     clear HO347
     clear HO350
     clear HO353
     clear HO361
     clear HO364
     clear HO367
     clear BK313
     clear BK314
     clear BK354
     clear BK368
     clear HB
     have HO321 := n0_
     have HO324 := n1_
     have HO327 := n2_
     have HO334 := n3_
     have HO337 := n4_
     have HO340 := n5_
     have HO347 := n6_
     have HO350 := n7_
     have HO353 := n8_
     have HO361 := n9_
     have HO364 := n10_
     have HO367 := n11_
     have BK313 := n12_
     have BK314 := n13_
     have BK354 := n14_
     have BK368 := n15_
     have HB := n16_
     clear n0_ n1_ n2_ n3_ n4_ n5_ n6_ n7_ n8_ n9_ n10_ n11_ n12_ n13_ n14_ n15_ n16_
     (try clear hb)
     (try clear hb2)
     (try clear hk)
     (try clear hi)
     refine hK.out _ _ ⟨(kC BK368.out 0).trans rfl, (kC BK368.out 1).trans rfl, (kC BK368.out 2).trans rfl, (kC BK368.out 3).trans rfl, (kC BK368.out 4).trans rfl, (kC BK368.out 5).trans rfl, (kC BK368.out 6).trans rfl, (kC BK314.out 0).trans rfl, (kC BK314.out 1).trans rfl, (kC BK314.out 2).trans rfl, (kC BK314.out 3).trans rfl, (kC BK314.out 4).trans rfl, (kC BK314.out 5).trans rfl, (kC BK314.out 6).trans rfl⟩ (fun hHeld => ?_)
     clear hK K
     refine norm_ (a' := ?_) ?_ ?_
     rotate_left
     ·show Act.put _ (some 20) _ = _
      simp only [Act.put, List.setIfInBounds_toArray, List.set_cons_zero, List.set_cons_succ, i64_w, i32_w]
      rfl
     refine one_ (i := 3) (N := some 21) #[true, true, true, true, false, false, false, false, false] rfl rfl (one_of HT_.out (by kernel_rfl)) (by decide) (fun K hK => ?_)
     refine goes_ Try.func53 (by kernel_rfl) rfl #[.agg #[.int .i64 t355, .int .i64 t356, .int .i64 t357, .int .i64 t358, .slice Ao44 t359.length co44, .slice Ao45 t362.length co45, .slice Ao46 t365.length co46], .agg #[.int .i64 t369, .int .i64 t370, .bool t371, .int .i64 t372, .int .i64 t373, .int .i64 t374, .int .i64 t375]] (by rfl) rfl rfl (by (try simp only [List.map_toArray, List.map_cons, List.map_nil]); first | done | rfl | (simp only [List.length_drop, List.length_take]; rfl)) ?_
     with_reducible refine (rules_Look.calls k t355 t356 t357 t358 _ _ t359 _ _ t362 _ _ t365 t369 t370 t371 t372 t373 t374 t375 t376 t377 _ ?side1 ?side2 ?side3 ?side4 ?side5 ?side6 A8.out).mono ?_
     (case side1 => repeat (first | exact (Kd.R_reads' HO361.out).2.2 | (with_reducible refine Kd.C_alloc ?_ _) | (with_reducible refine Kd.C_drewN ?_ _) | (with_reducible refine Kd.C_drew ?_)))
     (case side2 => exact (Kd.R_reads' HO361.out).2.1)
     (case side3 => repeat (first | exact (Kd.R_reads' HO364.out).2.2 | (with_reducible refine Kd.C_alloc ?_ _) | (with_reducible refine Kd.C_drewN ?_ _) | (with_reducible refine Kd.C_drew ?_)))
     (case side4 => exact (Kd.R_reads' HO364.out).2.1)
     (case side5 => repeat (first | exact (Kd.R_reads' HO367.out).2.2 | (with_reducible refine Kd.C_alloc ?_ _) | (with_reducible refine Kd.C_drewN ?_ _) | (with_reducible refine Kd.C_drew ?_)))
     (case side6 => exact (Kd.R_reads' HO367.out).2.1)
     rintro e w50 ⟨rfl, hb⟩
     refine ⟨_, rfl, ?_⟩
     have n0_ := A0s.mk (Kd.V_below (by (with_reducible repeat (first | apply Kd.V_alloc | apply Kd.V_drewN | apply Kd.V_drew)); exact HO321.out) hb)
     have n1_ := A0s.mk (Kd.V_below (by (with_reducible repeat (first | apply Kd.V_alloc | apply Kd.V_drewN | apply Kd.V_drew)); exact HO324.out) hb)
     have n2_ := A0s.mk (Kd.V_below (by (with_reducible repeat (first | apply Kd.V_alloc | apply Kd.V_drewN | apply Kd.V_drew)); exact HO327.out) hb)
     have n3_ := A0s.mk (Kd.V_below (by (with_reducible repeat (first | apply Kd.V_alloc | apply Kd.V_drewN | apply Kd.V_drew)); exact HO334.out) hb)
     have n4_ := A0s.mk (Kd.V_below (by (with_reducible repeat (first | apply Kd.V_alloc | apply Kd.V_drewN | apply Kd.V_drew)); exact HO337.out) hb)
     have n5_ := A0s.mk (Kd.R_below (by (with_reducible repeat (first | apply Kd.RA | apply Kd.RN | apply Kd.RD)); exact HO340.out) hb)
     have n6_ := A0s.mk (Kd.R_below (by (with_reducible repeat (first | apply Kd.RA | apply Kd.RN | apply Kd.RD)); exact HO347.out) hb)
     have n7_ := A0s.mk (Kd.R_below (by (with_reducible repeat (first | apply Kd.RA | apply Kd.RN | apply Kd.RD)); exact HO350.out) hb)
     have n8_ := A0s.mk (Kd.R_below (by (with_reducible repeat (first | apply Kd.RA | apply Kd.RN | apply Kd.RD)); exact HO353.out) hb)
     have n9_ := A0s.mk (Kd.R_below (by (with_reducible repeat (first | apply Kd.RA | apply Kd.RN | apply Kd.RD)); exact HO361.out) hb)
     have n10_ := A0s.mk (Kd.R_below (by (with_reducible repeat (first | apply Kd.RA | apply Kd.RN | apply Kd.RD)); exact HO364.out) hb)
     have n11_ := A0s.mk (Kd.R_below (by (with_reducible repeat (first | apply Kd.RA | apply Kd.RN | apply Kd.RD)); exact HO367.out) hb)
     have n12_ := A0s.mk (blk_below (g := gb313) (o := .cells #[.int .i64 a0_0, .int .i64 a0_1, .int .i64 a0_2, .int .i64 a0_3, .slice A0_4 l0_4.length c0_4, .slice A0_5 l0_5.length c0_5, .slice A0_6 l0_6.length c0_6] 78 (0, 0)) (by (with_reducible repeat (first | apply kN | apply kD | apply kA)); exact BK313.out) hb)
     have n13_ := A0s.mk (blk_below (g := gb314) (o := .cells #[.int .i64 a1_0, .int .i64 a1_1, .bool a1_2, .int .i64 a1_3, .int .i64 a1_4, .int .i64 a1_5, .int .i64 a1_6] 23 (0, 0)) (by (with_reducible repeat (first | apply kN | apply kD | apply kA)); exact BK314.out) hb)
     have n14_ := A0s.mk (blk_below (g := gb354) (o := .cells #[.int .i64 t341, .int .i64 t342, .int .i64 t343, .int .i64 t344, .slice Ao35 t345.length co35, .slice Ao36 t348.length co36, .slice Ao37 t351.length co37] 81 (0, 0)) (by (with_reducible repeat (first | apply kN | apply kD | apply kA)); exact BK354.out) hb)
     have n15_ := A0s.mk (blk_below (g := gb368) (o := .cells #[.int .i64 t355, .int .i64 t356, .int .i64 t357, .int .i64 t358, .slice Ao44 t359.length co44, .slice Ao45 t362.length co45, .slice Ao46 t365.length co46] 90 (0, 0)) (by (with_reducible repeat (first | apply kN | apply kD | apply kA)); exact BK368.out) hb)
     have n16_ := A0s.mk (below_step (by repeat (first | (with_reducible first | exact HB.out | apply bA | apply bN | apply bD | refine bS ?_ GE313.out | refine bS ?_ GE314.out | refine bS ?_ GE354.out | refine bS ?_ GE368.out) | exact HB.out)) hb)
     clear HO321
     clear HO324
     clear HO327
     clear HO334
     clear HO337
     clear HO340
     clear HO347
     clear HO350
     clear HO353
     clear HO361
     clear HO364
     clear HO367
     clear BK313
     clear BK314
     clear BK354
     clear BK368
     clear HB
     have HO321 := n0_
     have HO324 := n1_
     have HO327 := n2_
     have HO334 := n3_
     have HO337 := n4_
     have HO340 := n5_
     have HO347 := n6_
     have HO350 := n7_
     have HO353 := n8_
     have HO361 := n9_
     have HO364 := n10_
     have HO367 := n11_
     have BK313 := n12_
     have BK314 := n13_
     have BK354 := n14_
     have BK368 := n15_
     have HB := n16_
     clear n0_ n1_ n2_ n3_ n4_ n5_ n6_ n7_ n8_ n9_ n10_ n11_ n12_ n13_ n14_ n15_ n16_
     (try clear hb)
     (try clear hb2)
     (try clear hk)
     (try clear hi)
     refine hK.out _ _ ⟨(kC BK368.out 0).trans rfl, (kC BK368.out 1).trans rfl, (kC BK368.out 2).trans rfl, (kC BK368.out 3).trans rfl, (kC BK368.out 4).trans rfl, (kC BK368.out 5).trans rfl, (kC BK368.out 6).trans rfl, (kC BK314.out 0).trans rfl, (kC BK314.out 1).trans rfl, (kC BK314.out 2).trans rfl, (kC BK314.out 3).trans rfl, (kC BK314.out 4).trans rfl, (kC BK314.out 5).trans rfl, (kC BK314.out 6).trans rfl⟩ (fun hHeld => ?_)
     clear hK K
     refine norm_ (a' := ?_) ?_ ?_
     rotate_left
     ·show Act.put _ (some 21) _ = _
      simp only [Act.put, List.setIfInBounds_toArray, List.set_cons_zero, List.set_cons_succ, i64_w, i32_w]
      rfl
     refine pure_ (i := 4) (N := some 17) (v := ?_) (a' := ?_) #[true, true, true, true, true, false, false, false, false] rfl rfl (any_of HT_.out (by kernel_rfl)) (fun _ _ _ h => h) (Or.inl ⟨by rfl, ?_⟩) ?_ ?_
     rotate_left
     ·intro w'
      go_simp
      with_reducible rfl
     rotate_left
     ·simp only [Act.put, List.setIfInBounds_toArray, List.set_cons_zero, List.set_cons_succ, i64_w, i32_w]
      rfl
     refine pure_ (i := 5) (N := some 22) (v := ?_) (a' := ?_) #[true, true, true, true, true, true, false, false, false] rfl rfl (any_of HT_.out (by kernel_rfl)) (fun _ _ _ h => h) (Or.inl ⟨by rfl, ?_⟩) ?_ ?_
     rotate_left
     ·intro w'
      go_simp
      with_reducible rfl
     rotate_left
     ·simp only [Act.put, List.setIfInBounds_toArray, List.set_cons_zero, List.set_cons_succ, i64_w, i32_w]
      rfl
     refine pure_ (i := 6) (N := some 23) (v := ?_) (a' := ?_) #[true, true, true, true, true, true, true, false, false] rfl rfl (any_of HT_.out (by kernel_rfl)) (fun _ _ _ h => h) (Or.inl ⟨by rfl, ?_⟩) ?_ ?_
     rotate_left
     ·intro w'
      go_simp
      with_reducible rfl
     rotate_left
     ·simp only [Act.put, List.setIfInBounds_toArray, List.set_cons_zero, List.set_cons_succ, i64_w, i32_w]
      rfl
     refine pure_ (i := 7) (N := some 7) (v := ?_) (a' := ?_) #[true, true, true, true, true, true, true, true, false] rfl rfl (any_of HT_.out (by kernel_rfl)) (fun _ _ _ h => h) (Or.inl ⟨by rfl, ?_⟩) ?_ ?_
     rotate_left
     ·intro w'
      go_simp
      with_reducible rfl
     rotate_left
     ·simp only [Act.put, List.setIfInBounds_toArray, List.set_cons_zero, List.set_cons_succ, i64_w, i32_w]
      rfl
     refine pure_ (i := 8) (N := some 8) (v := ?_) (a' := ?_) #[true, true, true, true, true, true, true, true, true] rfl rfl (any_of HT_.out (by kernel_rfl)) (fun _ _ _ h => h) (Or.inl ⟨by rfl, ?_⟩) ?_ ?_
     rotate_left
     ·intro w'
      go_simp
      with_reducible rfl
     rotate_left
     ·simp only [Act.put, List.setIfInBounds_toArray, List.set_cons_zero, List.set_cons_succ, i64_w, i32_w]
      rfl
     refine done_ (done_of HT_.out (by kernel_rfl)) ?_
     obtain ⟨hcz51_0, hcz51_1, hcz51_2, hcz51_3, hcz51_4, hcz51_5, hcz51_6, hfz51_0, hfz51_1, hfz51_2, hfz51_3, hfz51_4, hfz51_5, hfz51_6⟩ := blk_all7 BK354.out
     obtain ⟨hcz52_0, hcz52_1, hcz52_2, hcz52_3, hcz52_4, hcz52_5, hcz52_6, hfz52_0, hfz52_1, hfz52_2, hfz52_3, hfz52_4, hfz52_5, hfz52_6⟩ := blk_all7 BK314.out
     try go_wp2_with (first | ((with_reducible refine gC (f := 54) rfl ?_); refine gL (some 27) rfl rfl Try.func54 (by kernel_rfl) rfl #[.agg #[.int .i64 t341, .int .i64 t342, .int .i64 t343, .int .i64 t344, .slice Ao35 t345.length co35, .slice Ao36 t348.length co36, .slice Ao37 t351.length co37], .agg #[.int .i64 a1_0, .int .i64 a1_1, .bool a1_2, .int .i64 a1_3, .int .i64 a1_4, .int .i64 a1_5, .int .i64 a1_6]] rfl (by (try simp only [List.map_toArray, List.map_cons, List.map_nil]); first | done | rfl | (simp only [List.length_drop, List.length_take]; rfl)) ?_; (with_reducible refine (stopgateref05_Look.calls k t341 t342 t343 t344 _ _ t345 _ _ t348 _ _ t351 a1_0 a1_1 a1_2 a1_3 a1_4 a1_5 a1_6 t378 t379 _ ?side1 ?side2 ?side3 ?side4 ?side5 ?side6 A9.out).mono ?_); (case side1 => repeat (first | exact (Kd.R_reads' HO347.out).2.2 | (with_reducible refine Kd.C_alloc ?_ _) | (with_reducible refine Kd.C_drewN ?_ _) | (with_reducible refine Kd.C_drew ?_))); (case side2 => exact (Kd.R_reads' HO347.out).2.1); (case side3 => repeat (first | exact (Kd.R_reads' HO350.out).2.2 | (with_reducible refine Kd.C_alloc ?_ _) | (with_reducible refine Kd.C_drewN ?_ _) | (with_reducible refine Kd.C_drew ?_))); (case side4 => exact (Kd.R_reads' HO350.out).2.1); (case side5 => repeat (first | exact (Kd.R_reads' HO353.out).2.2 | (with_reducible refine Kd.C_alloc ?_ _) | (with_reducible refine Kd.C_drewN ?_ _) | (with_reducible refine Kd.C_drew ?_))); (case side6 => exact (Kd.R_reads' HO353.out).2.1); rintro e w53 ⟨rfl, hb⟩; refine ⟨_, rfl, ?_⟩; have n0_ := A0s.mk (Kd.V_below (by (with_reducible repeat (first | apply Kd.V_alloc | apply Kd.V_drewN | apply Kd.V_drew)); exact HO321.out) hb); have n1_ := A0s.mk (Kd.V_below (by (with_reducible repeat (first | apply Kd.V_alloc | apply Kd.V_drewN | apply Kd.V_drew)); exact HO324.out) hb); have n2_ := A0s.mk (Kd.V_below (by (with_reducible repeat (first | apply Kd.V_alloc | apply Kd.V_drewN | apply Kd.V_drew)); exact HO327.out) hb); have n3_ := A0s.mk (Kd.V_below (by (with_reducible repeat (first | apply Kd.V_alloc | apply Kd.V_drewN | apply Kd.V_drew)); exact HO334.out) hb); have n4_ := A0s.mk (Kd.V_below (by (with_reducible repeat (first | apply Kd.V_alloc | apply Kd.V_drewN | apply Kd.V_drew)); exact HO337.out) hb); have n5_ := A0s.mk (Kd.R_below (by (with_reducible repeat (first | apply Kd.RA | apply Kd.RN | apply Kd.RD)); exact HO340.out) hb); have n6_ := A0s.mk (Kd.R_below (by (with_reducible repeat (first | apply Kd.RA | apply Kd.RN | apply Kd.RD)); exact HO347.out) hb); have n7_ := A0s.mk (Kd.R_below (by (with_reducible repeat (first | apply Kd.RA | apply Kd.RN | apply Kd.RD)); exact HO350.out) hb); have n8_ := A0s.mk (Kd.R_below (by (with_reducible repeat (first | apply Kd.RA | apply Kd.RN | apply Kd.RD)); exact HO353.out) hb); have n9_ := A0s.mk (Kd.R_below (by (with_reducible repeat (first | apply Kd.RA | apply Kd.RN | apply Kd.RD)); exact HO361.out) hb); have n10_ := A0s.mk (Kd.R_below (by (with_reducible repeat (first | apply Kd.RA | apply Kd.RN | apply Kd.RD)); exact HO364.out) hb); have n11_ := A0s.mk (Kd.R_below (by (with_reducible repeat (first | apply Kd.RA | apply Kd.RN | apply Kd.RD)); exact HO367.out) hb); have n12_ := A0s.mk (blk_below (g := gb313) (o := .cells #[.int .i64 a0_0, .int .i64 a0_1, .int .i64 a0_2, .int .i64 a0_3, .slice A0_4 l0_4.length c0_4, .slice A0_5 l0_5.length c0_5, .slice A0_6 l0_6.length c0_6] 78 (0, 0)) (by (with_reducible repeat (first | apply kN | apply kD | apply kA)); exact BK313.out) hb); have n13_ := A0s.mk (blk_below (g := gb314) (o := .cells #[.int .i64 a1_0, .int .i64 a1_1, .bool a1_2, .int .i64 a1_3, .int .i64 a1_4, .int .i64 a1_5, .int .i64 a1_6] 23 (0, 0)) (by (with_reducible repeat (first | apply kN | apply kD | apply kA)); exact BK314.out) hb); have n14_ := A0s.mk (blk_below (g := gb354) (o := .cells #[.int .i64 t341, .int .i64 t342, .int .i64 t343, .int .i64 t344, .slice Ao35 t345.length co35, .slice Ao36 t348.length co36, .slice Ao37 t351.length co37] 81 (0, 0)) (by (with_reducible repeat (first | apply kN | apply kD | apply kA)); exact BK354.out) hb); have n15_ := A0s.mk (blk_below (g := gb368) (o := .cells #[.int .i64 t355, .int .i64 t356, .int .i64 t357, .int .i64 t358, .slice Ao44 t359.length co44, .slice Ao45 t362.length co45, .slice Ao46 t365.length co46] 90 (0, 0)) (by (with_reducible repeat (first | apply kN | apply kD | apply kA)); exact BK368.out) hb); have n16_ := A0s.mk (below_step (by repeat (first | (with_reducible first | exact HB.out | apply bA | apply bN | apply bD | refine bS ?_ GE313.out | refine bS ?_ GE314.out | refine bS ?_ GE354.out | refine bS ?_ GE368.out) | exact HB.out)) hb); clear HO321; clear HO324; clear HO327; clear HO334; clear HO337; clear HO340; clear HO347; clear HO350; clear HO353; clear HO361; clear HO364; clear HO367; clear BK313; clear BK314; clear BK354; clear BK368; clear HB; have HO321 := n0_; have HO324 := n1_; have HO327 := n2_; have HO334 := n3_; have HO337 := n4_; have HO340 := n5_; have HO347 := n6_; have HO350 := n7_; have HO353 := n8_; have HO361 := n9_; have HO364 := n10_; have HO367 := n11_; have BK313 := n12_; have BK314 := n13_; have BK354 := n14_; have BK368 := n15_; have HB := n16_; clear n0_ n1_ n2_ n3_ n4_ n5_ n6_ n7_ n8_ n9_ n10_ n11_ n12_ n13_ n14_ n15_ n16_; (try clear hb); (try clear hb2); (try clear hk); (try clear hi)))
     have n0_ := A0s.mk (Kd.V_drew HO321.out)
     have n1_ := A0s.mk (Kd.V_drew HO324.out)
     have n2_ := A0s.mk (Kd.V_drew HO327.out)
     have n3_ := A0s.mk (Kd.V_drew HO334.out)
     have n4_ := A0s.mk (Kd.V_drew HO337.out)
     have n5_ := A0s.mk (Kd.RD HO340.out)
     have n6_ := A0s.mk (Kd.RD HO347.out)
     have n7_ := A0s.mk (Kd.RD HO350.out)
     have n8_ := A0s.mk (Kd.RD HO353.out)
     have n9_ := A0s.mk (Kd.RD HO361.out)
     have n10_ := A0s.mk (Kd.RD HO364.out)
     have n11_ := A0s.mk (Kd.RD HO367.out)
     have n12_ := A0s.mk (kD BK313.out)
     have n13_ := A0s.mk (kD BK314.out)
     have n14_ := A0s.mk (kD BK354.out)
     have n15_ := A0s.mk (kD BK368.out)
     have n16_ := A0s.mk (bD HB.out)
     clear HO321
     clear HO324
     clear HO327
     clear HO334
     clear HO337
     clear HO340
     clear HO347
     clear HO350
     clear HO353
     clear HO361
     clear HO364
     clear HO367
     clear BK313
     clear BK314
     clear BK354
     clear BK368
     clear HB
     have HO321 := n0_
     have HO324 := n1_
     have HO327 := n2_
     have HO334 := n3_
     have HO337 := n4_
     have HO340 := n5_
     have HO347 := n6_
     have HO350 := n7_
     have HO353 := n8_
     have HO361 := n9_
     have HO364 := n10_
     have HO367 := n11_
     have BK313 := n12_
     have BK314 := n13_
     have BK354 := n14_
     have BK368 := n15_
     have HB := n16_
     clear n0_ n1_ n2_ n3_ n4_ n5_ n6_ n7_ n8_ n9_ n10_ n11_ n12_ n13_ n14_ n15_ n16_
     refine start_ (n := 28) (S := fun w' => w'.cell? ⟨gb368, 0, none⟩ = some (.int .i64 t355) ∧ w'.cell? ⟨gb368, 1, none⟩ = some (.int .i64 t356) ∧ w'.cell? ⟨gb368, 2, none⟩ = some (.int .i64 t357) ∧ w'.cell? ⟨gb368, 3, none⟩ = some (.int .i64 t358) ∧ w'.cell? ⟨gb368, 4, none⟩ = some (.slice Ao44 t359.length co44) ∧ w'.cell? ⟨gb368, 5, none⟩ = some (.slice Ao45 t362.length co45) ∧ w'.cell? ⟨gb368, 6, none⟩ = some (.slice Ao46 t365.length co46) ∧ w'.cell? ⟨gb314, 0, none⟩ = some (.int .i64 a1_0) ∧ w'.cell? ⟨gb314, 1, none⟩ = some (.int .i64 a1_1) ∧ w'.cell? ⟨gb314, 2, none⟩ = some (.bool a1_2) ∧ w'.cell? ⟨gb314, 3, none⟩ = some (.int .i64 a1_3) ∧ w'.cell? ⟨gb314, 4, none⟩ = some (.int .i64 a1_4) ∧ w'.cell? ⟨gb314, 5, none⟩ = some (.int .i64 a1_5) ∧ w'.cell? ⟨gb314, 6, none⟩ = some (.int .i64 a1_6) ∧ w'.cell? ⟨gb354, 0, none⟩ = some (.int .i64 t341) ∧ w'.cell? ⟨gb354, 1, none⟩ = some (.int .i64 t342) ∧ w'.cell? ⟨gb354, 2, none⟩ = some (.int .i64 t343) ∧ w'.cell? ⟨gb354, 3, none⟩ = some (.int .i64 t344) ∧ w'.cell? ⟨gb354, 4, none⟩ = some (.slice Ao35 t345.length co35) ∧ w'.cell? ⟨gb354, 5, none⟩ = some (.slice Ao36 t348.length co36) ∧ w'.cell? ⟨gb354, 6, none⟩ = some (.slice Ao37 t351.length co37)) (ds := []) #[false, false, false, false, false, false, false, false, false, false, false, false, false, false, false, false, false, false, false, false, false, false, false, false, false, false, false, false] (by kernel_rfl) rfl rfl ⟨(kC BK368.out 0).trans rfl, (kC BK368.out 1).trans rfl, (kC BK368.out 2).trans rfl, (kC BK368.out 3).trans rfl, (kC BK368.out 4).trans rfl, (kC BK368.out 5).trans rfl, (kC BK368.out 6).trans rfl, (kC BK314.out 0).trans rfl, (kC BK314.out 1).trans rfl, (kC BK314.out 2).trans rfl, (kC BK314.out 3).trans rfl, (kC BK314.out 4).trans rfl, (kC BK314.out 5).trans rfl, (kC BK314.out 6).trans rfl, (kC BK354.out 0).trans rfl, (kC BK354.out 1).trans rfl, (kC BK354.out 2).trans rfl, (kC BK354.out 3).trans rfl, (kC BK354.out 4).trans rfl, (kC BK354.out 5).trans rfl, (kC BK354.out 6).trans rfl⟩ (fun hHeld => ?_); refine with_tabW stopgatelaw05_RulesLooks.tab5 stopgatelaw05_RulesLooks.bits5 (fun HT_ HW_ => ?_)
     generalize w53.drew = w54 at HO321 HO324 HO327 HO334 HO337 HO340 HO347 HO350 HO353 HO361 HO364 HO367 BK313 BK314 BK354 BK368 HB hHeld ⊢
     refine one_ (i := 0) (N := some 30) #[true, false, false, false, false, false, false, false, false, false, false, false, false, false, false, false, false, false, false, false, false, false, false, false, false, false, false, false] rfl rfl (one_of HT_.out (by kernel_rfl)) (by decide) (fun K hK => ?_)
     refine goes_ Try.func50 (by kernel_rfl) rfl #[] (by rfl) rfl rfl (by (try simp only [List.map_toArray, List.map_cons, List.map_nil]); first | done | rfl | (simp only [List.length_drop, List.length_take]; rfl)) ?_
     with_reducible refine (stopgatelaw05_told.calls k  true _ A10.out).mono ?_
     rintro e w55 ⟨rfl, hb⟩
     refine ⟨_, rfl, ?_⟩
     have n0_ := A0s.mk (Kd.V_below (by (with_reducible repeat (first | apply Kd.V_alloc | apply Kd.V_drewN | apply Kd.V_drew)); exact HO321.out) hb)
     have n1_ := A0s.mk (Kd.V_below (by (with_reducible repeat (first | apply Kd.V_alloc | apply Kd.V_drewN | apply Kd.V_drew)); exact HO324.out) hb)
     have n2_ := A0s.mk (Kd.V_below (by (with_reducible repeat (first | apply Kd.V_alloc | apply Kd.V_drewN | apply Kd.V_drew)); exact HO327.out) hb)
     have n3_ := A0s.mk (Kd.V_below (by (with_reducible repeat (first | apply Kd.V_alloc | apply Kd.V_drewN | apply Kd.V_drew)); exact HO334.out) hb)
     have n4_ := A0s.mk (Kd.V_below (by (with_reducible repeat (first | apply Kd.V_alloc | apply Kd.V_drewN | apply Kd.V_drew)); exact HO337.out) hb)
     have n5_ := A0s.mk (Kd.R_below (by (with_reducible repeat (first | apply Kd.RA | apply Kd.RN | apply Kd.RD)); exact HO340.out) hb)
     have n6_ := A0s.mk (Kd.R_below (by (with_reducible repeat (first | apply Kd.RA | apply Kd.RN | apply Kd.RD)); exact HO347.out) hb)
     have n7_ := A0s.mk (Kd.R_below (by (with_reducible repeat (first | apply Kd.RA | apply Kd.RN | apply Kd.RD)); exact HO350.out) hb)
     have n8_ := A0s.mk (Kd.R_below (by (with_reducible repeat (first | apply Kd.RA | apply Kd.RN | apply Kd.RD)); exact HO353.out) hb)
     have n9_ := A0s.mk (Kd.R_below (by (with_reducible repeat (first | apply Kd.RA | apply Kd.RN | apply Kd.RD)); exact HO361.out) hb)
     have n10_ := A0s.mk (Kd.R_below (by (with_reducible repeat (first | apply Kd.RA | apply Kd.RN | apply Kd.RD)); exact HO364.out) hb)
     have n11_ := A0s.mk (Kd.R_below (by (with_reducible repeat (first | apply Kd.RA | apply Kd.RN | apply Kd.RD)); exact HO367.out) hb)
     have n12_ := A0s.mk (blk_below (g := gb313) (o := .cells #[.int .i64 a0_0, .int .i64 a0_1, .int .i64 a0_2, .int .i64 a0_3, .slice A0_4 l0_4.length c0_4, .slice A0_5 l0_5.length c0_5, .slice A0_6 l0_6.length c0_6] 78 (0, 0)) (by (with_reducible repeat (first | apply kN | apply kD | apply kA)); exact BK313.out) hb)
     have n13_ := A0s.mk (blk_below (g := gb314) (o := .cells #[.int .i64 a1_0, .int .i64 a1_1, .bool a1_2, .int .i64 a1_3, .int .i64 a1_4, .int .i64 a1_5, .int .i64 a1_6] 23 (0, 0)) (by (with_reducible repeat (first | apply kN | apply kD | apply kA)); exact BK314.out) hb)
     have n14_ := A0s.mk (blk_below (g := gb354) (o := .cells #[.int .i64 t341, .int .i64 t342, .int .i64 t343, .int .i64 t344, .slice Ao35 t345.length co35, .slice Ao36 t348.length co36, .slice Ao37 t351.length co37] 81 (0, 0)) (by (with_reducible repeat (first | apply kN | apply kD | apply kA)); exact BK354.out) hb)
     have n15_ := A0s.mk (blk_below (g := gb368) (o := .cells #[.int .i64 t355, .int .i64 t356, .int .i64 t357, .int .i64 t358, .slice Ao44 t359.length co44, .slice Ao45 t362.length co45, .slice Ao46 t365.length co46] 90 (0, 0)) (by (with_reducible repeat (first | apply kN | apply kD | apply kA)); exact BK368.out) hb)
     have n16_ := A0s.mk (below_step (by repeat (first | (with_reducible first | exact HB.out | apply bA | apply bN | apply bD | refine bS ?_ GE313.out | refine bS ?_ GE314.out | refine bS ?_ GE354.out | refine bS ?_ GE368.out) | exact HB.out)) hb)
     clear HO321
     clear HO324
     clear HO327
     clear HO334
     clear HO337
     clear HO340
     clear HO347
     clear HO350
     clear HO353
     clear HO361
     clear HO364
     clear HO367
     clear BK313
     clear BK314
     clear BK354
     clear BK368
     clear HB
     have HO321 := n0_
     have HO324 := n1_
     have HO327 := n2_
     have HO334 := n3_
     have HO337 := n4_
     have HO340 := n5_
     have HO347 := n6_
     have HO350 := n7_
     have HO353 := n8_
     have HO361 := n9_
     have HO364 := n10_
     have HO367 := n11_
     have BK313 := n12_
     have BK314 := n13_
     have BK354 := n14_
     have BK368 := n15_
     have HB := n16_
     clear n0_ n1_ n2_ n3_ n4_ n5_ n6_ n7_ n8_ n9_ n10_ n11_ n12_ n13_ n14_ n15_ n16_
     (try clear hb)
     (try clear hb2)
     (try clear hk)
     (try clear hi)
     refine hK.out _ _ ⟨(kC BK368.out 0).trans rfl, (kC BK368.out 1).trans rfl, (kC BK368.out 2).trans rfl, (kC BK368.out 3).trans rfl, (kC BK368.out 4).trans rfl, (kC BK368.out 5).trans rfl, (kC BK368.out 6).trans rfl, (kC BK314.out 0).trans rfl, (kC BK314.out 1).trans rfl, (kC BK314.out 2).trans rfl, (kC BK314.out 3).trans rfl, (kC BK314.out 4).trans rfl, (kC BK314.out 5).trans rfl, (kC BK314.out 6).trans rfl, (kC BK354.out 0).trans rfl, (kC BK354.out 1).trans rfl, (kC BK354.out 2).trans rfl, (kC BK354.out 3).trans rfl, (kC BK354.out 4).trans rfl, (kC BK354.out 5).trans rfl, (kC BK354.out 6).trans rfl⟩ (fun hHeld => ?_)
     clear hK K
     refine norm_ (a' := ?_) ?_ ?_
     rotate_left
     ·show Act.put _ (some 30) _ = _
      simp only [Act.put, List.setIfInBounds_toArray, List.set_cons_zero, List.set_cons_succ, i64_w, i32_w]
      rfl
     refine pure_ (i := 1) (N := some 31) (v := ?_) (a' := ?_) #[true, true, false, false, false, false, false, false, false, false, false, false, false, false, false, false, false, false, false, false, false, false, false, false, false, false, false, false] rfl rfl (any_of HT_.out (by kernel_rfl)) (fun _ _ _ h => h) (Or.inl ⟨by rfl, ?_⟩) ?_ ?_
     rotate_left
     ·intro w'
      go_simp
      with_reducible rfl
     rotate_left
     ·simp only [Act.put, List.setIfInBounds_toArray, List.set_cons_zero, List.set_cons_succ, i64_w, i32_w]
      rfl
     refine take_ (i := 2) (N := some 32) (v := ?_) (a' := ?_) #[true, true, true, false, false, false, false, false, false, false, false, false, false, false, false, false, false, false, false, false, false, false, false, false, false, false, false, false] rfl rfl (take_ofW HT_.out HW_.out (by kernel_rfl)) (fun _ _ _ h => h) (Or.inl ⟨by rfl, ?_⟩) hHeld ?_ ?_
     rotate_left
     ·rintro w' ⟨s0, s1, s2, s3, s4, s5, s6, s7, s8, s9, s10, s11, s12, s13, s14, s15, s16, s17, s18, s19, s20⟩
      go_simp
      with_reducible rfl
     rotate_left
     ·simp only [Act.put, List.setIfInBounds_toArray, List.set_cons_zero, List.set_cons_succ, i64_w, i32_w]
      rfl
     refine one_ (i := 3) (N := some 33) #[true, true, true, true, false, false, false, false, false, false, false, false, false, false, false, false, false, false, false, false, false, false, false, false, false, false, false, false] rfl rfl (one_of HT_.out (by kernel_rfl)) (by decide) (fun K hK => ?_)
     refine goes_ Try.func51 (by kernel_rfl) rfl #[.agg #[.int .i64 t355, .int .i64 t356, .int .i64 t357, .int .i64 t358, .slice Ao44 t359.length co44, .slice Ao45 t362.length co45, .slice Ao46 t365.length co46]] (by rfl) rfl rfl (by (try simp only [List.map_toArray, List.map_cons, List.map_nil]); first | done | rfl | (simp only [List.length_drop, List.length_take]; rfl)) ?_
     with_reducible refine (rules_Check.calls k t355 t356 t357 t358 _ _ t359 _ _ t362 _ _ t365 t381 _ ?side1 ?side2 ?side3 ?side4 ?side5 ?side6 A12.out).mono ?_
     (case side1 => repeat (first | exact (Kd.R_reads' HO361.out).2.2 | (with_reducible refine Kd.C_alloc ?_ _) | (with_reducible refine Kd.C_drewN ?_ _) | (with_reducible refine Kd.C_drew ?_)))
     (case side2 => exact (Kd.R_reads' HO361.out).2.1)
     (case side3 => repeat (first | exact (Kd.R_reads' HO364.out).2.2 | (with_reducible refine Kd.C_alloc ?_ _) | (with_reducible refine Kd.C_drewN ?_ _) | (with_reducible refine Kd.C_drew ?_)))
     (case side4 => exact (Kd.R_reads' HO364.out).2.1)
     (case side5 => repeat (first | exact (Kd.R_reads' HO367.out).2.2 | (with_reducible refine Kd.C_alloc ?_ _) | (with_reducible refine Kd.C_drewN ?_ _) | (with_reducible refine Kd.C_drew ?_)))
     (case side6 => exact (Kd.R_reads' HO367.out).2.1)
     rintro e w56 ⟨rfl, hb⟩
     refine ⟨_, rfl, ?_⟩
     have n0_ := A0s.mk (Kd.V_below (by (with_reducible repeat (first | apply Kd.V_alloc | apply Kd.V_drewN | apply Kd.V_drew)); exact HO321.out) hb)
     have n1_ := A0s.mk (Kd.V_below (by (with_reducible repeat (first | apply Kd.V_alloc | apply Kd.V_drewN | apply Kd.V_drew)); exact HO324.out) hb)
     have n2_ := A0s.mk (Kd.V_below (by (with_reducible repeat (first | apply Kd.V_alloc | apply Kd.V_drewN | apply Kd.V_drew)); exact HO327.out) hb)
     have n3_ := A0s.mk (Kd.V_below (by (with_reducible repeat (first | apply Kd.V_alloc | apply Kd.V_drewN | apply Kd.V_drew)); exact HO334.out) hb)
     have n4_ := A0s.mk (Kd.V_below (by (with_reducible repeat (first | apply Kd.V_alloc | apply Kd.V_drewN | apply Kd.V_drew)); exact HO337.out) hb)
     have n5_ := A0s.mk (Kd.R_below (by (with_reducible repeat (first | apply Kd.RA | apply Kd.RN | apply Kd.RD)); exact HO340.out) hb)
     have n6_ := A0s.mk (Kd.R_below (by (with_reducible repeat (first | apply Kd.RA | apply Kd.RN | apply Kd.RD)); exact HO347.out) hb)
     have n7_ := A0s.mk (Kd.R_below (by (with_reducible repeat (first | apply Kd.RA | apply Kd.RN | apply Kd.RD)); exact HO350.out) hb)
     have n8_ := A0s.mk (Kd.R_below (by (with_reducible repeat (first | apply Kd.RA | apply Kd.RN | apply Kd.RD)); exact HO353.out) hb)
     have n9_ := A0s.mk (Kd.R_below (by (with_reducible repeat (first | apply Kd.RA | apply Kd.RN | apply Kd.RD)); exact HO361.out) hb)
     have n10_ := A0s.mk (Kd.R_below (by (with_reducible repeat (first | apply Kd.RA | apply Kd.RN | apply Kd.RD)); exact HO364.out) hb)
     have n11_ := A0s.mk (Kd.R_below (by (with_reducible repeat (first | apply Kd.RA | apply Kd.RN | apply Kd.RD)); exact HO367.out) hb)
     have n12_ := A0s.mk (blk_below (g := gb313) (o := .cells #[.int .i64 a0_0, .int .i64 a0_1, .int .i64 a0_2, .int .i64 a0_3, .slice A0_4 l0_4.length c0_4, .slice A0_5 l0_5.length c0_5, .slice A0_6 l0_6.length c0_6] 78 (0, 0)) (by (with_reducible repeat (first | apply kN | apply kD | apply kA)); exact BK313.out) hb)
     have n13_ := A0s.mk (blk_below (g := gb314) (o := .cells #[.int .i64 a1_0, .int .i64 a1_1, .bool a1_2, .int .i64 a1_3, .int .i64 a1_4, .int .i64 a1_5, .int .i64 a1_6] 23 (0, 0)) (by (with_reducible repeat (first | apply kN | apply kD | apply kA)); exact BK314.out) hb)
     have n14_ := A0s.mk (blk_below (g := gb354) (o := .cells #[.int .i64 t341, .int .i64 t342, .int .i64 t343, .int .i64 t344, .slice Ao35 t345.length co35, .slice Ao36 t348.length co36, .slice Ao37 t351.length co37] 81 (0, 0)) (by (with_reducible repeat (first | apply kN | apply kD | apply kA)); exact BK354.out) hb)
     have n15_ := A0s.mk (blk_below (g := gb368) (o := .cells #[.int .i64 t355, .int .i64 t356, .int .i64 t357, .int .i64 t358, .slice Ao44 t359.length co44, .slice Ao45 t362.length co45, .slice Ao46 t365.length co46] 90 (0, 0)) (by (with_reducible repeat (first | apply kN | apply kD | apply kA)); exact BK368.out) hb)
     have n16_ := A0s.mk (below_step (by repeat (first | (with_reducible first | exact HB.out | apply bA | apply bN | apply bD | refine bS ?_ GE313.out | refine bS ?_ GE314.out | refine bS ?_ GE354.out | refine bS ?_ GE368.out) | exact HB.out)) hb)
     clear HO321
     clear HO324
     clear HO327
     clear HO334
     clear HO337
     clear HO340
     clear HO347
     clear HO350
     clear HO353
     clear HO361
     clear HO364
     clear HO367
     clear BK313
     clear BK314
     clear BK354
     clear BK368
     clear HB
     have HO321 := n0_
     have HO324 := n1_
     have HO327 := n2_
     have HO334 := n3_
     have HO337 := n4_
     have HO340 := n5_
     have HO347 := n6_
     have HO350 := n7_
     have HO353 := n8_
     have HO361 := n9_
     have HO364 := n10_
     have HO367 := n11_
     have BK313 := n12_
     have BK314 := n13_
     have BK354 := n14_
     have BK368 := n15_
     have HB := n16_
     clear n0_ n1_ n2_ n3_ n4_ n5_ n6_ n7_ n8_ n9_ n10_ n11_ n12_ n13_ n14_ n15_ n16_
     (try clear hb)
     (try clear hb2)
     (try clear hk)
     (try clear hi)
     refine hK.out _ _ ⟨(kC BK368.out 0).trans rfl, (kC BK368.out 1).trans rfl, (kC BK368.out 2).trans rfl, (kC BK368.out 3).trans rfl, (kC BK368.out 4).trans rfl, (kC BK368.out 5).trans rfl, (kC BK368.out 6).trans rfl, (kC BK314.out 0).trans rfl, (kC BK314.out 1).trans rfl, (kC BK314.out 2).trans rfl, (kC BK314.out 3).trans rfl, (kC BK314.out 4).trans rfl, (kC BK314.out 5).trans rfl, (kC BK314.out 6).trans rfl, (kC BK354.out 0).trans rfl, (kC BK354.out 1).trans rfl, (kC BK354.out 2).trans rfl, (kC BK354.out 3).trans rfl, (kC BK354.out 4).trans rfl, (kC BK354.out 5).trans rfl, (kC BK354.out 6).trans rfl⟩ (fun hHeld => ?_)
     clear hK K
     refine norm_ (a' := ?_) ?_ ?_
     rotate_left
     ·show Act.put _ (some 33) _ = _
      simp only [Act.put, List.setIfInBounds_toArray, List.set_cons_zero, List.set_cons_succ, i64_w, i32_w]
      rfl
     refine pure_ (i := 4) (N := some 34) (v := ?_) (a' := ?_) #[true, true, true, true, true, false, false, false, false, false, false, false, false, false, false, false, false, false, false, false, false, false, false, false, false, false, false, false] rfl rfl (any_of HT_.out (by kernel_rfl)) (fun _ _ _ h => h) (Or.inl ⟨by rfl, ?_⟩) ?_ ?_
     rotate_left
     ·intro w'
      go_simp
      with_reducible rfl
     rotate_left
     ·simp only [Act.put, List.setIfInBounds_toArray, List.set_cons_zero, List.set_cons_succ, i64_w, i32_w]
      rfl
     refine pure_ (i := 5) (N := some 35) (v := ?_) (a' := ?_) #[true, true, true, true, true, true, false, false, false, false, false, false, false, false, false, false, false, false, false, false, false, false, false, false, false, false, false, false] rfl rfl (any_of HT_.out (by kernel_rfl)) (fun _ _ _ h => h) (Or.inl ⟨by rfl, ?_⟩) ?_ ?_
     rotate_left
     ·intro w'
      go_simp
      with_reducible rfl
     rotate_left
     ·simp only [Act.put, List.setIfInBounds_toArray, List.set_cons_zero, List.set_cons_succ, i64_w, i32_w]
      rfl
     refine pure_ (i := 6) (N := some 36) (v := ?_) (a' := ?_) #[true, true, true, true, true, true, true, false, false, false, false, false, false, false, false, false, false, false, false, false, false, false, false, false, false, false, false, false] rfl rfl (any_of HT_.out (by kernel_rfl)) (fun _ _ _ h => h) (Or.inl ⟨by rfl, ?_⟩) ?_ ?_
     rotate_left
     ·intro w'
      go_simp
      with_reducible rfl
     rotate_left
     ·simp only [Act.put, List.setIfInBounds_toArray, List.set_cons_zero, List.set_cons_succ, i64_w, i32_w]
      rfl
     refine pure_ (i := 7) (N := some 37) (v := ?_) (a' := ?_) #[true, true, true, true, true, true, true, true, false, false, false, false, false, false, false, false, false, false, false, false, false, false, false, false, false, false, false, false] rfl rfl (any_of HT_.out (by kernel_rfl)) (fun _ _ _ h => h) (Or.inl ⟨by rfl, ?_⟩) ?_ ?_
     rotate_left
     ·intro w'
      go_simp
      with_reducible rfl
     rotate_left
     ·simp only [Act.put, List.setIfInBounds_toArray, List.set_cons_zero, List.set_cons_succ, i64_w, i32_w]
      rfl
     refine pure_ (i := 8) (N := some 38) (v := ?_) (a' := ?_) #[true, true, true, true, true, true, true, true, true, false, false, false, false, false, false, false, false, false, false, false, false, false, false, false, false, false, false, false] rfl rfl (any_of HT_.out (by kernel_rfl)) (fun _ _ _ h => h) (Or.inl ⟨by rfl, ?_⟩) ?_ ?_
     rotate_left
     ·intro w'
      go_simp
      with_reducible rfl
     rotate_left
     ·simp only [Act.put, List.setIfInBounds_toArray, List.set_cons_zero, List.set_cons_succ, i64_w, i32_w]
      rfl
     refine pure_ (i := 9) (N := some 39) (v := ?_) (a' := ?_) #[true, true, true, true, true, true, true, true, true, true, false, false, false, false, false, false, false, false, false, false, false, false, false, false, false, false, false, false] rfl rfl (any_of HT_.out (by kernel_rfl)) (fun _ _ _ h => h) (Or.inl ⟨by rfl, ?_⟩) ?_ ?_
     rotate_left
     ·intro w'
      go_simp
      with_reducible rfl
     rotate_left
     ·simp only [Act.put, List.setIfInBounds_toArray, List.set_cons_zero, List.set_cons_succ, i64_w, i32_w]
      rfl
     refine pure_ (i := 10) (N := some 40) (v := ?_) (a' := ?_) #[true, true, true, true, true, true, true, true, true, true, true, false, false, false, false, false, false, false, false, false, false, false, false, false, false, false, false, false] rfl rfl (any_of HT_.out (by kernel_rfl)) (fun _ _ _ h => h) (Or.inl ⟨by rfl, ?_⟩) ?_ ?_
     rotate_left
     ·intro w'
      go_simp
      with_reducible rfl
     rotate_left
     ·simp only [Act.put, List.setIfInBounds_toArray, List.set_cons_zero, List.set_cons_succ, i64_w, i32_w]
      rfl
     refine pure_ (i := 11) (N := some 41) (v := ?_) (a' := ?_) #[true, true, true, true, true, true, true, true, true, true, true, true, false, false, false, false, false, false, false, false, false, false, false, false, false, false, false, false] rfl rfl (any_of HT_.out (by kernel_rfl)) (fun _ _ _ h => h) (Or.inl ⟨by rfl, ?_⟩) ?_ ?_
     rotate_left
     ·intro w'
      go_simp
      with_reducible rfl
     rotate_left
     ·simp only [Act.put, List.setIfInBounds_toArray, List.set_cons_zero, List.set_cons_succ, i64_w, i32_w]
      rfl
     refine pure_ (i := 12) (N := some 42) (v := ?_) (a' := ?_) #[true, true, true, true, true, true, true, true, true, true, true, true, true, false, false, false, false, false, false, false, false, false, false, false, false, false, false, false] rfl rfl (any_of HT_.out (by kernel_rfl)) (fun _ _ _ h => h) (Or.inl ⟨by rfl, ?_⟩) ?_ ?_
     rotate_left
     ·intro w'
      go_simp
      with_reducible rfl
     rotate_left
     ·simp only [Act.put, List.setIfInBounds_toArray, List.set_cons_zero, List.set_cons_succ, i64_w, i32_w]
      rfl
     refine pure_ (i := 13) (N := some 43) (v := ?_) (a' := ?_) #[true, true, true, true, true, true, true, true, true, true, true, true, true, true, false, false, false, false, false, false, false, false, false, false, false, false, false, false] rfl rfl (any_of HT_.out (by kernel_rfl)) (fun _ _ _ h => h) (Or.inl ⟨by rfl, ?_⟩) ?_ ?_
     rotate_left
     ·intro w'
      go_simp
      with_reducible rfl
     rotate_left
     ·simp only [Act.put, List.setIfInBounds_toArray, List.set_cons_zero, List.set_cons_succ, i64_w, i32_w]
      rfl
     refine pure_ (i := 14) (N := some 44) (v := ?_) (a' := ?_) #[true, true, true, true, true, true, true, true, true, true, true, true, true, true, true, false, false, false, false, false, false, false, false, false, false, false, false, false] rfl rfl (any_of HT_.out (by kernel_rfl)) (fun _ _ _ h => h) (Or.inl ⟨by rfl, ?_⟩) ?_ ?_
     rotate_left
     ·intro w'
      go_simp
      with_reducible rfl
     rotate_left
     ·simp only [Act.put, List.setIfInBounds_toArray, List.set_cons_zero, List.set_cons_succ, i64_w, i32_w]
      rfl
     refine pure_ (i := 15) (N := some 45) (v := ?_) (a' := ?_) #[true, true, true, true, true, true, true, true, true, true, true, true, true, true, true, true, false, false, false, false, false, false, false, false, false, false, false, false] rfl rfl (any_of HT_.out (by kernel_rfl)) (fun _ _ _ h => h) (Or.inl ⟨by rfl, ?_⟩) ?_ ?_
     rotate_left
     ·intro w'
      go_simp
      with_reducible rfl
     rotate_left
     ·simp only [Act.put, List.setIfInBounds_toArray, List.set_cons_zero, List.set_cons_succ, i64_w, i32_w]
      rfl
     refine pure_ (i := 16) (N := some 46) (v := ?_) (a' := ?_) #[true, true, true, true, true, true, true, true, true, true, true, true, true, true, true, true, true, false, false, false, false, false, false, false, false, false, false, false] rfl rfl (any_of HT_.out (by kernel_rfl)) (fun _ _ _ h => h) (Or.inl ⟨by rfl, ?_⟩) ?_ ?_
     rotate_left
     ·intro w'
      go_simp
      with_reducible rfl
     rotate_left
     ·simp only [Act.put, List.setIfInBounds_toArray, List.set_cons_zero, List.set_cons_succ, i64_w, i32_w]
      rfl
     refine pure_ (i := 18) (N := some 48) (v := ?_) (a' := ?_) #[true, true, true, true, true, true, true, true, true, true, true, true, true, true, true, true, true, false, true, false, false, false, false, false, false, false, false, false] rfl rfl (any_of HT_.out (by kernel_rfl)) (fun _ _ _ h => h) (Or.inl ⟨by rfl, ?_⟩) ?_ ?_
     rotate_left
     ·intro w'
      go_simp
      with_reducible rfl
     rotate_left
     ·simp only [Act.put, List.setIfInBounds_toArray, List.set_cons_zero, List.set_cons_succ, i64_w, i32_w]
      rfl
     refine pure_ (i := 22) (N := some 52) (v := ?_) (a' := ?_) #[true, true, true, true, true, true, true, true, true, true, true, true, true, true, true, true, true, false, true, false, false, false, true, false, false, false, false, false] rfl rfl (any_of HT_.out (by kernel_rfl)) (fun _ _ _ h => h) (Or.inl ⟨by rfl, ?_⟩) ?_ ?_
     rotate_left
     ·intro w'
      go_simp
      with_reducible rfl
     rotate_left
     ·simp only [Act.put, List.setIfInBounds_toArray, List.set_cons_zero, List.set_cons_succ, i64_w, i32_w]
      rfl
     refine take_ (i := 17) (N := some 47) (v := ?_) (a' := ?_) #[true, true, true, true, true, true, true, true, true, true, true, true, true, true, true, true, true, true, true, false, false, false, true, false, false, false, false, false] rfl rfl (take_ofW HT_.out HW_.out (by kernel_rfl)) (fun _ _ _ h => h) (Or.inl ⟨by rfl, ?_⟩) hHeld ?_ ?_
     rotate_left
     ·rintro w' ⟨s0, s1, s2, s3, s4, s5, s6, s7, s8, s9, s10, s11, s12, s13, s14, s15, s16, s17, s18, s19, s20⟩
      go_simp
      with_reducible rfl
     rotate_left
     ·simp only [Act.put, List.setIfInBounds_toArray, List.set_cons_zero, List.set_cons_succ, i64_w, i32_w]
      rfl
     refine take_ (i := 19) (N := some 49) (v := ?_) (a' := ?_) #[true, true, true, true, true, true, true, true, true, true, true, true, true, true, true, true, true, true, true, true, false, false, true, false, false, false, false, false] rfl rfl (take_ofW HT_.out HW_.out (by kernel_rfl)) (fun _ _ _ h => h) (Or.inl ⟨by rfl, ?_⟩) hHeld ?_ ?_
     rotate_left
     ·rintro w' ⟨s0, s1, s2, s3, s4, s5, s6, s7, s8, s9, s10, s11, s12, s13, s14, s15, s16, s17, s18, s19, s20⟩
      go_simp
      with_reducible rfl
     rotate_left
     ·simp only [Act.put, List.setIfInBounds_toArray, List.set_cons_zero, List.set_cons_succ, i64_w, i32_w]
      rfl
     refine take_ (i := 21) (N := some 51) (v := ?_) (a' := ?_) #[true, true, true, true, true, true, true, true, true, true, true, true, true, true, true, true, true, true, true, true, false, true, true, false, false, false, false, false] rfl rfl (take_ofW HT_.out HW_.out (by kernel_rfl)) (fun _ _ _ h => h) (Or.inl ⟨by rfl, ?_⟩) hHeld ?_ ?_
     rotate_left
     ·rintro w' ⟨s0, s1, s2, s3, s4, s5, s6, s7, s8, s9, s10, s11, s12, s13, s14, s15, s16, s17, s18, s19, s20⟩
      go_simp
      with_reducible rfl
     rotate_left
     ·simp only [Act.put, List.setIfInBounds_toArray, List.set_cons_zero, List.set_cons_succ, i64_w, i32_w]
      rfl
     refine take_ (i := 23) (N := some 53) (v := ?_) (a' := ?_) #[true, true, true, true, true, true, true, true, true, true, true, true, true, true, true, true, true, true, true, true, false, true, true, true, false, false, false, false] rfl rfl (take_ofW HT_.out HW_.out (by kernel_rfl)) (fun _ _ _ h => h) (Or.inl ⟨by rfl, ?_⟩) hHeld ?_ ?_
     rotate_left
     ·rintro w' ⟨s0, s1, s2, s3, s4, s5, s6, s7, s8, s9, s10, s11, s12, s13, s14, s15, s16, s17, s18, s19, s20⟩
      go_simp
      with_reducible rfl
     rotate_left
     ·simp only [Act.put, List.setIfInBounds_toArray, List.set_cons_zero, List.set_cons_succ, i64_w, i32_w]
      rfl
     refine one_ (i := 20) (N := some 50) #[true, true, true, true, true, true, true, true, true, true, true, true, true, true, true, true, true, true, true, true, true, true, true, true, false, false, false, false] rfl rfl (one_of HT_.out (by kernel_rfl)) (by decide) (fun K hK => ?_)
     refine goes_ Try.func55 (by kernel_rfl) rfl #[.agg #[.int .i64 t355, .int .i64 t356, .int .i64 t357, .int .i64 t358, .slice Ao44 t359.length co44, .slice Ao45 t362.length co45, .slice Ao46 t365.length co46], .int .i64 a1_0] (by rfl) rfl rfl (by (try simp only [List.map_toArray, List.map_cons, List.map_nil]); first | done | rfl | (simp only [List.length_drop, List.length_take]; rfl)) ?_
     with_reducible refine (rules_Shard.calls t355 t356 t357 t358 _ _ t359 _ _ t362 _ _ t365 a1_0 t382 _ ?side1 ?side2 ?side3 ?side4 ?side5 ?side6 A16.out).mono ?_
     (case side1 => repeat (first | exact (Kd.R_reads' HO361.out).2.2 | (with_reducible refine Kd.C_alloc ?_ _) | (with_reducible refine Kd.C_drewN ?_ _) | (with_reducible refine Kd.C_drew ?_)))
     (case side2 => exact (Kd.R_reads' HO361.out).2.1)
     (case side3 => repeat (first | exact (Kd.R_reads' HO364.out).2.2 | (with_reducible refine Kd.C_alloc ?_ _) | (with_reducible refine Kd.C_drewN ?_ _) | (with_reducible refine Kd.C_drew ?_)))
     (case side4 => exact (Kd.R_reads' HO364.out).2.1)
     (case side5 => repeat (first | exact (Kd.R_reads' HO367.out).2.2 | (with_reducible refine Kd.C_alloc ?_ _) | (with_reducible refine Kd.C_drewN ?_ _) | (with_reducible refine Kd.C_drew ?_)))
     (case side6 => exact (Kd.R_reads' HO367.out).2.1)
     rintro e w57 ⟨rfl, hb⟩
     refine ⟨_, rfl, ?_⟩
     have n0_ := A0s.mk (Kd.V_below (by (with_reducible repeat (first | apply Kd.V_alloc | apply Kd.V_drewN | apply Kd.V_drew)); exact HO321.out) hb)
     have n1_ := A0s.mk (Kd.V_below (by (with_reducible repeat (first | apply Kd.V_alloc | apply Kd.V_drewN | apply Kd.V_drew)); exact HO324.out) hb)
     have n2_ := A0s.mk (Kd.V_below (by (with_reducible repeat (first | apply Kd.V_alloc | apply Kd.V_drewN | apply Kd.V_drew)); exact HO327.out) hb)
     have n3_ := A0s.mk (Kd.V_below (by (with_reducible repeat (first | apply Kd.V_alloc | apply Kd.V_drewN | apply Kd.V_drew)); exact HO334.out) hb)
     have n4_ := A0s.mk (Kd.V_below (by (with_reducible repeat (first | apply Kd.V_alloc | apply Kd.V_drewN | apply Kd.V_drew)); exact HO337.out) hb)
     have n5_ := A0s.mk (Kd.R_below (by (with_reducible repeat (first | apply Kd.RA | apply Kd.RN | apply Kd.RD)); exact HO340.out) hb)
     have n6_ := A0s.mk (Kd.R_below (by (with_reducible repeat (first | apply Kd.RA | apply Kd.RN | apply Kd.RD)); exact HO347.out) hb)
     have n7_ := A0s.mk (Kd.R_below (by (with_reducible repeat (first | apply Kd.RA | apply Kd.RN | apply Kd.RD)); exact HO350.out) hb)
     have n8_ := A0s.mk (Kd.R_below (by (with_reducible repeat (first | apply Kd.RA | apply Kd.RN | apply Kd.RD)); exact HO353.out) hb)
     have n9_ := A0s.mk (Kd.R_below (by (with_reducible repeat (first | apply Kd.RA | apply Kd.RN | apply Kd.RD)); exact HO361.out) hb)
     have n10_ := A0s.mk (Kd.R_below (by (with_reducible repeat (first | apply Kd.RA | apply Kd.RN | apply Kd.RD)); exact HO364.out) hb)
     have n11_ := A0s.mk (Kd.R_below (by (with_reducible repeat (first | apply Kd.RA | apply Kd.RN | apply Kd.RD)); exact HO367.out) hb)
     have n12_ := A0s.mk (blk_below (g := gb313) (o := .cells #[.int .i64 a0_0, .int .i64 a0_1, .int .i64 a0_2, .int .i64 a0_3, .slice A0_4 l0_4.length c0_4, .slice A0_5 l0_5.length c0_5, .slice A0_6 l0_6.length c0_6] 78 (0, 0)) (by (with_reducible repeat (first | apply kN | apply kD | apply kA)); exact BK313.out) hb)
     have n13_ := A0s.mk (blk_below (g := gb314) (o := .cells #[.int .i64 a1_0, .int .i64 a1_1, .bool a1_2, .int .i64 a1_3, .int .i64 a1_4, .int .i64 a1_5, .int .i64 a1_6] 23 (0, 0)) (by (with_reducible repeat (first | apply kN | apply kD | apply kA)); exact BK314.out) hb)
     have n14_ := A0s.mk (blk_below (g := gb354) (o := .cells #[.int .i64 t341, .int .i64 t342, .int .i64 t343, .int .i64 t344, .slice Ao35 t345.length co35, .slice Ao36 t348.length co36, .slice Ao37 t351.length co37] 81 (0, 0)) (by (with_reducible repeat (first | apply kN | apply kD | apply kA)); exact BK354.out) hb)
     have n15_ := A0s.mk (blk_below (g := gb368) (o := .cells #[.int .i64 t355, .int .i64 t356, .int .i64 t357, .int .i64 t358, .slice Ao44 t359.length co44, .slice Ao45 t362.length co45, .slice Ao46 t365.length co46] 90 (0, 0)) (by (with_reducible repeat (first | apply kN | apply kD | apply kA)); exact BK368.out) hb)
     have n16_ := A0s.mk (below_step (by repeat (first | (with_reducible first | exact HB.out | apply bA | apply bN | apply bD | refine bS ?_ GE313.out | refine bS ?_ GE314.out | refine bS ?_ GE354.out | refine bS ?_ GE368.out) | exact HB.out)) hb)
     clear HO321
     clear HO324
     clear HO327
     clear HO334
     clear HO337
     clear HO340
     clear HO347
     clear HO350
     clear HO353
     clear HO361
     clear HO364
     clear HO367
     clear BK313
     clear BK314
     clear BK354
     clear BK368
     clear HB
     have HO321 := n0_
     have HO324 := n1_
     have HO327 := n2_
     have HO334 := n3_
     have HO337 := n4_
     have HO340 := n5_
     have HO347 := n6_
     have HO350 := n7_
     have HO353 := n8_
     have HO361 := n9_
     have HO364 := n10_
     have HO367 := n11_
     have BK313 := n12_
     have BK314 := n13_
     have BK354 := n14_
     have BK368 := n15_
     have HB := n16_
     clear n0_ n1_ n2_ n3_ n4_ n5_ n6_ n7_ n8_ n9_ n10_ n11_ n12_ n13_ n14_ n15_ n16_
     (try clear hb)
     (try clear hb2)
     (try clear hk)
     (try clear hi)
     refine hK.out _ _ ⟨(kC BK368.out 0).trans rfl, (kC BK368.out 1).trans rfl, (kC BK368.out 2).trans rfl, (kC BK368.out 3).trans rfl, (kC BK368.out 4).trans rfl, (kC BK368.out 5).trans rfl, (kC BK368.out 6).trans rfl, (kC BK314.out 0).trans rfl, (kC BK314.out 1).trans rfl, (kC BK314.out 2).trans rfl, (kC BK314.out 3).trans rfl, (kC BK314.out 4).trans rfl, (kC BK314.out 5).trans rfl, (kC BK314.out 6).trans rfl, (kC BK354.out 0).trans rfl, (kC BK354.out 1).trans rfl, (kC BK354.out 2).trans rfl, (kC BK354.out 3).trans rfl, (kC BK354.out 4).trans rfl, (kC BK354.out 5).trans rfl, (kC BK354.out 6).trans rfl⟩ (fun hHeld => ?_)
     clear hK K
     refine norm_ (a' := ?_) ?_ ?_
     rotate_left
     ·show Act.put _ (some 50) _ = _
      simp only [Act.put, List.setIfInBounds_toArray, List.set_cons_zero, List.set_cons_succ, i64_w, i32_w]
      rfl
     refine one_ (i := 24) (N := some 54) #[true, true, true, true, true, true, true, true, true, true, true, true, true, true, true, true, true, true, true, true, true, true, true, true, true, false, false, false] rfl rfl (one_of HT_.out (by kernel_rfl)) (by decide) (fun K hK => ?_)
     refine goes_ Try.func56 (by kernel_rfl) rfl #[.agg #[.int .i64 t341, .int .i64 t342, .int .i64 t343, .int .i64 t344, .slice Ao35 t345.length co35, .slice Ao36 t348.length co36, .slice Ao37 t351.length co37], .int .i64 a1_0] (by rfl) rfl rfl (by (try simp only [List.map_toArray, List.map_cons, List.map_nil]); first | done | rfl | (simp only [List.length_drop, List.length_take]; rfl)) ?_
     with_reducible refine (stopgateref05_Shard.calls t341 t342 t343 t344 _ _ t345 _ _ t348 _ _ t351 a1_0 t383 _ ?side1 ?side2 ?side3 ?side4 ?side5 ?side6 A17.out).mono ?_
     (case side1 => repeat (first | exact (Kd.R_reads' HO347.out).2.2 | (with_reducible refine Kd.C_alloc ?_ _) | (with_reducible refine Kd.C_drewN ?_ _) | (with_reducible refine Kd.C_drew ?_)))
     (case side2 => exact (Kd.R_reads' HO347.out).2.1)
     (case side3 => repeat (first | exact (Kd.R_reads' HO350.out).2.2 | (with_reducible refine Kd.C_alloc ?_ _) | (with_reducible refine Kd.C_drewN ?_ _) | (with_reducible refine Kd.C_drew ?_)))
     (case side4 => exact (Kd.R_reads' HO350.out).2.1)
     (case side5 => repeat (first | exact (Kd.R_reads' HO353.out).2.2 | (with_reducible refine Kd.C_alloc ?_ _) | (with_reducible refine Kd.C_drewN ?_ _) | (with_reducible refine Kd.C_drew ?_)))
     (case side6 => exact (Kd.R_reads' HO353.out).2.1)
     rintro e w58 ⟨rfl, hb⟩
     refine ⟨_, rfl, ?_⟩
     have n0_ := A0s.mk (Kd.V_below (by (with_reducible repeat (first | apply Kd.V_alloc | apply Kd.V_drewN | apply Kd.V_drew)); exact HO321.out) hb)
     have n1_ := A0s.mk (Kd.V_below (by (with_reducible repeat (first | apply Kd.V_alloc | apply Kd.V_drewN | apply Kd.V_drew)); exact HO324.out) hb)
     have n2_ := A0s.mk (Kd.V_below (by (with_reducible repeat (first | apply Kd.V_alloc | apply Kd.V_drewN | apply Kd.V_drew)); exact HO327.out) hb)
     have n3_ := A0s.mk (Kd.V_below (by (with_reducible repeat (first | apply Kd.V_alloc | apply Kd.V_drewN | apply Kd.V_drew)); exact HO334.out) hb)
     have n4_ := A0s.mk (Kd.V_below (by (with_reducible repeat (first | apply Kd.V_alloc | apply Kd.V_drewN | apply Kd.V_drew)); exact HO337.out) hb)
     have n5_ := A0s.mk (Kd.R_below (by (with_reducible repeat (first | apply Kd.RA | apply Kd.RN | apply Kd.RD)); exact HO340.out) hb)
     have n6_ := A0s.mk (Kd.R_below (by (with_reducible repeat (first | apply Kd.RA | apply Kd.RN | apply Kd.RD)); exact HO347.out) hb)
     have n7_ := A0s.mk (Kd.R_below (by (with_reducible repeat (first | apply Kd.RA | apply Kd.RN | apply Kd.RD)); exact HO350.out) hb)
     have n8_ := A0s.mk (Kd.R_below (by (with_reducible repeat (first | apply Kd.RA | apply Kd.RN | apply Kd.RD)); exact HO353.out) hb)
     have n9_ := A0s.mk (Kd.R_below (by (with_reducible repeat (first | apply Kd.RA | apply Kd.RN | apply Kd.RD)); exact HO361.out) hb)
     have n10_ := A0s.mk (Kd.R_below (by (with_reducible repeat (first | apply Kd.RA | apply Kd.RN | apply Kd.RD)); exact HO364.out) hb)
     have n11_ := A0s.mk (Kd.R_below (by (with_reducible repeat (first | apply Kd.RA | apply Kd.RN | apply Kd.RD)); exact HO367.out) hb)
     have n12_ := A0s.mk (blk_below (g := gb313) (o := .cells #[.int .i64 a0_0, .int .i64 a0_1, .int .i64 a0_2, .int .i64 a0_3, .slice A0_4 l0_4.length c0_4, .slice A0_5 l0_5.length c0_5, .slice A0_6 l0_6.length c0_6] 78 (0, 0)) (by (with_reducible repeat (first | apply kN | apply kD | apply kA)); exact BK313.out) hb)
     have n13_ := A0s.mk (blk_below (g := gb314) (o := .cells #[.int .i64 a1_0, .int .i64 a1_1, .bool a1_2, .int .i64 a1_3, .int .i64 a1_4, .int .i64 a1_5, .int .i64 a1_6] 23 (0, 0)) (by (with_reducible repeat (first | apply kN | apply kD | apply kA)); exact BK314.out) hb)
     have n14_ := A0s.mk (blk_below (g := gb354) (o := .cells #[.int .i64 t341, .int .i64 t342, .int .i64 t343, .int .i64 t344, .slice Ao35 t345.length co35, .slice Ao36 t348.length co36, .slice Ao37 t351.length co37] 81 (0, 0)) (by (with_reducible repeat (first | apply kN | apply kD | apply kA)); exact BK354.out) hb)
     have n15_ := A0s.mk (blk_below (g := gb368) (o := .cells #[.int .i64 t355, .int .i64 t356, .int .i64 t357, .int .i64 t358, .slice Ao44 t359.length co44, .slice Ao45 t362.length co45, .slice Ao46 t365.length co46] 90 (0, 0)) (by (with_reducible repeat (first | apply kN | apply kD | apply kA)); exact BK368.out) hb)
     have n16_ := A0s.mk (below_step (by repeat (first | (with_reducible first | exact HB.out | apply bA | apply bN | apply bD | refine bS ?_ GE313.out | refine bS ?_ GE314.out | refine bS ?_ GE354.out | refine bS ?_ GE368.out) | exact HB.out)) hb)
     clear HO321
     clear HO324
     clear HO327
     clear HO334
     clear HO337
     clear HO340
     clear HO347
     clear HO350
     clear HO353
     clear HO361
     clear HO364
     clear HO367
     clear BK313
     clear BK314
     clear BK354
     clear BK368
     clear HB
     have HO321 := n0_
     have HO324 := n1_
     have HO327 := n2_
     have HO334 := n3_
     have HO337 := n4_
     have HO340 := n5_
     have HO347 := n6_
     have HO350 := n7_
     have HO353 := n8_
     have HO361 := n9_
     have HO364 := n10_
     have HO367 := n11_
     have BK313 := n12_
     have BK314 := n13_
     have BK354 := n14_
     have BK368 := n15_
     have HB := n16_
     clear n0_ n1_ n2_ n3_ n4_ n5_ n6_ n7_ n8_ n9_ n10_ n11_ n12_ n13_ n14_ n15_ n16_
     (try clear hb)
     (try clear hb2)
     (try clear hk)
     (try clear hi)
     refine hK.out _ _ ⟨(kC BK368.out 0).trans rfl, (kC BK368.out 1).trans rfl, (kC BK368.out 2).trans rfl, (kC BK368.out 3).trans rfl, (kC BK368.out 4).trans rfl, (kC BK368.out 5).trans rfl, (kC BK368.out 6).trans rfl, (kC BK314.out 0).trans rfl, (kC BK314.out 1).trans rfl, (kC BK314.out 2).trans rfl, (kC BK314.out 3).trans rfl, (kC BK314.out 4).trans rfl, (kC BK314.out 5).trans rfl, (kC BK314.out 6).trans rfl, (kC BK354.out 0).trans rfl, (kC BK354.out 1).trans rfl, (kC BK354.out 2).trans rfl, (kC BK354.out 3).trans rfl, (kC BK354.out 4).trans rfl, (kC BK354.out 5).trans rfl, (kC BK354.out 6).trans rfl⟩ (fun hHeld => ?_)
     clear hK K
     refine norm_ (a' := ?_) ?_ ?_
     rotate_left
     ·show Act.put _ (some 54) _ = _
      simp only [Act.put, List.setIfInBounds_toArray, List.set_cons_zero, List.set_cons_succ, i64_w, i32_w]
      rfl
     refine pure_ (i := 25) (N := some 55) (v := ?_) (a' := ?_) #[true, true, true, true, true, true, true, true, true, true, true, true, true, true, true, true, true, true, true, true, true, true, true, true, true, true, false, false] rfl rfl (any_of HT_.out (by kernel_rfl)) (fun _ _ _ h => h) (Or.inl ⟨by rfl, ?_⟩) ?_ ?_
     rotate_left
     ·intro w'
      go_simp
      with_reducible rfl
     rotate_left
     ·simp only [Act.put, List.setIfInBounds_toArray, List.set_cons_zero, List.set_cons_succ, i64_w, i32_w]
      rfl
     refine pure_ (i := 26) (N := some 56) (v := ?_) (a' := ?_) #[true, true, true, true, true, true, true, true, true, true, true, true, true, true, true, true, true, true, true, true, true, true, true, true, true, true, true, false] rfl rfl (any_of HT_.out (by kernel_rfl)) (fun _ _ _ h => h) (Or.inl ⟨by rfl, ?_⟩) ?_ ?_
     rotate_left
     ·intro w'
      go_simp
      with_reducible rfl
     rotate_left
     ·simp only [Act.put, List.setIfInBounds_toArray, List.set_cons_zero, List.set_cons_succ, i64_w, i32_w]
      rfl
     refine pure_ (i := 27) (N := some 4) (v := ?_) (a' := ?_) #[true, true, true, true, true, true, true, true, true, true, true, true, true, true, true, true, true, true, true, true, true, true, true, true, true, true, true, true] rfl rfl (any_of HT_.out (by kernel_rfl)) (fun _ _ _ h => h) (Or.inl ⟨by rfl, ?_⟩) ?_ ?_
     rotate_left
     ·intro w'
      go_simp
      with_reducible rfl
     rotate_left
     ·simp only [Act.put, List.setIfInBounds_toArray, List.set_cons_zero, List.set_cons_succ, i64_w, i32_w]
      rfl
     refine done_ (done_of HT_.out (by kernel_rfl)) ?_
     try go_wp2
     go_ret
     exact ⟨by first | rfl | (simp [errW_none, errW_some] <;> rfl) | (simp [*, errW_none, errW_some] <;> rfl), by repeat (first | (with_reducible first | exact HB.out | apply bA | apply bN | apply bD | refine bS ?_ GE313.out | refine bS ?_ GE314.out | refine bS ?_ GE354.out | refine bS ?_ GE368.out) | exact HB.out)⟩
    ·rw [if_neg c15] at H
     exact absurd H (by simp)
   ·rw [if_neg c14] at H
    exact absurd H (by simp)
  ·rw [if_neg c13] at H
   exact absurd H (by simp)
 ·replace c11 := Bool.eq_false_iff.mpr c11
  subst c11
  have H1 : (none) = some r := by rw [if_neg (show ¬ (false = true) by decide)] at H; exact H
  clear H
  have H := H1
  clear H1
  exact absurd H (by simp)

/-- THE ONE PURE STATEMENT of stopgatelaw05_RulesLooks: yours. -/
def stopgatelaw05_RulesLooks.Pure : Prop := ∀ (a0_0 : Int) (a0_1 : Int) (a0_2 : Int) (a0_3 : Int) (l0_4 : List (S176)) (l0_5 : List Int) (l0_6 : List (S145)) (a1_0 : Int) (a1_1 : Int) (a1_2 : Bool) (a1_3 : Int) (a1_4 : Int) (a1_5 : Int) (a1_6 : Int), (Lit.int .i64 a0_0).wf = true → (Lit.int .i64 a0_1).wf = true → (Lit.int .i64 a0_2).wf = true → (Lit.int .i64 a0_3).wf = true → (l0_4.length ≤ maxLen ∧ ∀ x ∈ l0_4, ((Lit.int .i64 x.f0).wf = true ∧ (Lit.int .i64 x.f1).wf = true)) → (l0_5.length ≤ maxLen ∧ ∀ x ∈ l0_5, (Lit.int .i64 x).wf = true) → (l0_6.length ≤ maxLen ∧ ∀ x ∈ l0_6, ((Lit.int .i64 x.f0).wf = true ∧ (Lit.int .i64 x.f1).wf = true ∧ (Lit.int .i64 x.f2).wf = true ∧ (Lit.int .u64 x.f3).wf = true)) → (Lit.int .i64 a1_0).wf = true → (Lit.int .i64 a1_1).wf = true → (Lit.int .i64 a1_3).wf = true → (Lit.int .i64 a1_4).wf = true → (Lit.int .i64 a1_5).wf = true → (Lit.int .i64 a1_6).wf = true → ∃ k, stopgatelaw05_RulesLooks.f k a0_0 a0_1 a0_2 a0_3 l0_4 l0_5 l0_6 a1_0 a1_1 a1_2 a1_3 a1_4 a1_5 a1_6 = some true
theorem stopgatelaw05_RulesLooks.walk (P : stopgatelaw05_RulesLooks.Pure) (a0_0 : Int) (a0_1 : Int) (a0_2 : Int) (a0_3 : Int) (A0_4 : Option Addr) (c0_4 : Nat) (l0_4 : List (S176)) (A0_5 : Option Addr) (c0_5 : Nat) (l0_5 : List Int) (A0_6 : Option Addr) (c0_6 : Nat) (l0_6 : List (S145)) (a1_0 : Int) (a1_1 : Int) (a1_2 : Bool) (a1_3 : Int) (a1_4 : Int) (a1_5 : Int) (a1_6 : Int) (w : World) (hr0_4 : Kd.C k176 w A0_4 l0_4.length l0_4) (hc0_4 : l0_4.length ≤ c0_4) (hr0_5 : Kd.C (Kd.int .i64) w A0_5 l0_5.length l0_5) (hc0_5 : l0_5.length ≤ c0_5) (hr0_6 : Kd.C k145 w A0_6 l0_6.length l0_6) (hc0_6 : l0_6.length ≤ c0_6) (h_0_0 : (Lit.int .i64 a0_0).wf = true) (h_0_1 : (Lit.int .i64 a0_1).wf = true) (h_0_2 : (Lit.int .i64 a0_2).wf = true) (h_0_3 : (Lit.int .i64 a0_3).wf = true) (h_0_4 : (l0_4.length ≤ maxLen ∧ ∀ x ∈ l0_4, ((Lit.int .i64 x.f0).wf = true ∧ (Lit.int .i64 x.f1).wf = true))) (h_0_5 : (l0_5.length ≤ maxLen ∧ ∀ x ∈ l0_5, (Lit.int .i64 x).wf = true)) (h_0_6 : (l0_6.length ≤ maxLen ∧ ∀ x ∈ l0_6, ((Lit.int .i64 x.f0).wf = true ∧ (Lit.int .i64 x.f1).wf = true ∧ (Lit.int .i64 x.f2).wf = true ∧ (Lit.int .u64 x.f3).wf = true))) (h_1_0 : (Lit.int .i64 a1_0).wf = true) (h_1_1 : (Lit.int .i64 a1_1).wf = true) (h_1_3 : (Lit.int .i64 a1_3).wf = true) (h_1_4 : (Lit.int .i64 a1_4).wf = true) (h_1_5 : (Lit.int .i64 a1_5).wf = true) (h_1_6 : (Lit.int .i64 a1_6).wf = true) :
  Calls Try.prog 13 #[.agg #[.int .i64 a0_0, .int .i64 a0_1, .int .i64 a0_2, .int .i64 a0_3, .slice A0_4 l0_4.length c0_4, .slice A0_5 l0_5.length c0_5, .slice A0_6 l0_6.length c0_6], .agg #[.int .i64 a1_0, .int .i64 a1_1, .bool a1_2, .int .i64 a1_3, .int .i64 a1_4, .int .i64 a1_5, .int .i64 a1_6]] w fun e w' => e = .returned (.bool true) ∧ Below w.heap.size w w' := by
 obtain ⟨k, h⟩ := P a0_0 a0_1 a0_2 a0_3 l0_4 l0_5 l0_6 a1_0 a1_1 a1_2 a1_3 a1_4 a1_5 a1_6 h_0_0 h_0_1 h_0_2 h_0_3 h_0_4 h_0_5 h_0_6 h_1_0 h_1_1 h_1_3 h_1_4 h_1_5 h_1_6
 refine (stopgatelaw05_RulesLooks.calls k a0_0 a0_1 a0_2 a0_3 _ _ l0_4 _ _ l0_5 _ _ l0_6 a1_0 a1_1 a1_2 a1_3 a1_4 a1_5 a1_6 true w hr0_4 hc0_4 hr0_5 hc0_5 hr0_6 hc0_6 h).mono ?_
 rintro e w' ⟨rfl, hd⟩
 exact ⟨rfl, hd⟩

end Go.Proofs.Ytgikjgekdeaneaa.QRulesLooks
