/- Printed by wip/gen/myprint.py, a program of this session, for this claim: functions of the program as Lean functions, each with a proof that the Go code comes to its answers. -/
import Derived.Test.YtnodcekkbbmfnaaQCreditEdgesx0
import Derived.Test.YtnodcekkbbmfnaaQCreditEdgesx1
import Derived.Test.YtnodcekkbbmfnaaQCreditEdgesx2
import Derived.Test.YtnodcekkbbmfnaaQCreditEdgesx4
import Derived.Test.YtnodcekkbbmfnaaQCreditEdgesx5
import Derived.Test.YtnodcekkbbmfnaaQCreditEdgesx6
namespace Go.Proofs.Ytnodcekkbbmfnaa.QCreditEdges
open Go.RowKit Go.Proofs.YtnodcekkbbmfnaaW.PrintWords Go.Proofs.YtnodcekkbbmfnaaW.PrintLast Go.Proofs.YtnodcekkbbmfnaaW.PrintMore
attribute [local go_sem] max2_int min2_int max_two min_two max_three min_three max_four min_four   -- for this text's walks alone
set_option linter.unusedVariables false
set_option linter.unusedSimpArgs false

/-! ### stopgatelaw04_CreditEdges: function 12 -/
mutual
def stopgatelaw04_CreditEdges.l0 : Nat → List Int → List (S68) → Int → Int → List (S43) → List Int → Option (Bool)
 | 0, _, _, _, _, _, _ => none
 | k + 1, x2, x7, x9, x10, x277000, x277001 => if x10 < (x2.length : Int) then (stopgatelaw04_CreditEdges.j1 k x2 x7 x9 x10 (decide (x10 < 10)) x277000 x277001) else (stopgatelaw04_CreditEdges.j1 k x2 x7 x9 x10 false x277000 x277001)
def stopgatelaw04_CreditEdges.j1 : Nat → List Int → List (S68) → Int → Int → Bool → List (S43) → List Int → Option (Bool)
 | 0, _, _, _, _, _, _, _ => none
 | k + 1, x2, x7, x9, x10, x44, x277000, x277001 => if x44 = true then (if 0 ≤ x10 then (if x10 < (x2.length : Int) then (if (IntKind.u64.wrap ((x7.length : Int))) = 0 then (none) else ((credit_Reserve.f k x277000 x277001 (wrap64 (Int.tmod (IntKind.u64.wrap (rd x2 x10)) (IntKind.u64.wrap ((x7.length : Int))))) (wrap64 (Int.tmod (IntKind.u64.wrap (rd x2 x10)) 1000))).bind fun bt279 => (if bt279.2.2.1 = 0 then (stopgatelaw04_CreditEdges.l0 k x2 x7 x9 (wrap64 (x10 + 1)) bt279.1 bt279.2.1) else (stopgatelaw04_CreditEdges.l0 k x2 x7 x9 (wrap64 (x10 + 1)) x277000 x277001)))) else (none)) else (none)) else ((stopgatelaw04_From.f k x277000 x277001).bind fun bt288 => ((stopgatelaw04_told.f k).bind fun t295 => (if t295 = true then (if (bt288.2.length : Int) = (x7.length : Int) then ((stopgateref03_Path.f k x7 x9).bind fun t296 => (if 0 < (t296.length : Int) then (if 0 ≤ (rd t296 0) then (if (rd t296 0) < (bt288.1.length : Int) then (if (rd t296 0) < (bt288.2.length : Int) then (stopgatelaw04_CreditEdges.l1 k x9 t296 (wrap64 (((rd_T68 bt288.1 (rd t296 0)).f1) - (rd bt288.2 (rd t296 0)))) 0 1 x277000 x277001 bt288.1 bt288.2) else (none)) else (none)) else (none)) else (none))) else (none)) else (none))))
def stopgatelaw04_CreditEdges.l1 : Nat → Int → List Int → Int → Int → Int → List (S43) → List Int → List (S68) → List Int → Option (Bool)
 | 0, _, _, _, _, _, _, _, _, _ => none
 | k + 1, x9, x15, x16, x17, x18, x277000, x277001, x295000, x295001 => if x18 < (x15.length : Int) then (if 0 ≤ x18 then (if 0 ≤ (rd x15 x18) then (if (rd x15 x18) < (x295000.length : Int) then (if (rd x15 x18) < (x295001.length : Int) then (if (wrap64 (((rd_T68 x295000 (rd x15 x18)).f1) - (rd x295001 (rd x15 x18)))) < x16 then (stopgatelaw04_CreditEdges.l1 k x9 x15 (wrap64 (((rd_T68 x295000 (rd x15 x18)).f1) - (rd x295001 (rd x15 x18)))) x18 (wrap64 (x18 + 1)) x277000 x277001 x295000 x295001) else (stopgatelaw04_CreditEdges.l1 k x9 x15 x16 x17 (wrap64 (x18 + 1)) x277000 x277001 x295000 x295001)) else (none)) else (none)) else (none)) else (none)) else ((credit_Reserve.f k x277000 x277001 x9 x16).bind fun bt311 => ((credit_Reserve.f k x277000 x277001 x9 (wrap64 (x16 + 1))).bind fun bt320 => (if bt311.2.2.1 = 0 then (if bt311.2.2.2 = (-1) then (if bt320.2.2.1 = (wrap64 (12 + x17)) then (if 0 ≤ x17 then (if x17 < (x15.length : Int) then (some (bt320.2.2.2 == (rd x15 x17))) else (none)) else (none)) else (none)) else (none)) else (none))))
end
def stopgatelaw04_CreditEdges.f (k : Nat) (l0 : List (S68)) (a1 : Int) (l2 : List Int) : Option (Bool) := (stopgateref03_Fix.f k l0).bind fun t264 => ((stopgatelaw03_To.f k t264).bind fun t267 => ((credit_Begin.f t267).bind fun bt270 => (if (IntKind.u64.wrap ((t264.length : Int))) = 0 then (none) else (stopgatelaw04_CreditEdges.l0 k l2 t264 (wrap64 (Int.tmod (IntKind.u64.wrap (a1)) (IntKind.u64.wrap ((t264.length : Int))))) 0 bt270.1 bt270.2))))
theorem stopgatelaw04_CreditEdges.mono_l : ∀ k, (∀ y0 y1 y2 y3 y4 y5, LeO (stopgatelaw04_CreditEdges.l0 k y0 y1 y2 y3 y4 y5) (stopgatelaw04_CreditEdges.l0 (k + 1) y0 y1 y2 y3 y4 y5)) ∧ (∀ y0 y1 y2 y3 y4 y5 y6, LeO (stopgatelaw04_CreditEdges.j1 k y0 y1 y2 y3 y4 y5 y6) (stopgatelaw04_CreditEdges.j1 (k + 1) y0 y1 y2 y3 y4 y5 y6)) ∧ (∀ y0 y1 y2 y3 y4 y5 y6 y7 y8, LeO (stopgatelaw04_CreditEdges.l1 k y0 y1 y2 y3 y4 y5 y6 y7 y8) (stopgatelaw04_CreditEdges.l1 (k + 1) y0 y1 y2 y3 y4 y5 y6 y7 y8))
 | 0 => ⟨fun _ _ _ _ _ _ r h => by simp [stopgatelaw04_CreditEdges.l0] at h, fun _ _ _ _ _ _ _ r h => by simp [stopgatelaw04_CreditEdges.j1] at h, fun _ _ _ _ _ _ _ _ _ r h => by simp [stopgatelaw04_CreditEdges.l1] at h⟩
 | k + 1 => by
  obtain ⟨ih0, ih1, ih2⟩ := stopgatelaw04_CreditEdges.mono_l k
  refine ⟨?_, ?_, ?_⟩
  ·intro y0 y1 y2 y3 y4 y5
   unfold stopgatelaw04_CreditEdges.l0
   repeat' first
   | (with_reducible exact ih0 _ _ _ _ _ _)
   | (with_reducible exact ih1 _ _ _ _ _ _ _)
   | (with_reducible exact ih2 _ _ _ _ _ _ _ _ _)
   | (with_reducible exact credit_Reserve.mono _ _ _ _ _)
   | (with_reducible exact stopgatelaw03_To.mono _ _)
   | (with_reducible exact stopgatelaw04_From.mono _ _ _)
   | (with_reducible exact stopgatelaw04_told.mono _)
   | (with_reducible exact stopgateref03_Fix.mono _ _)
   | (with_reducible exact stopgateref03_Path.mono _ _ _)
   | (with_reducible exact LeO.refl _)
   | (with_reducible exact LeO.none _)
   | (with_reducible refine LeO.ite ?_ ?_)
   | (with_reducible refine LeO.bind ?_ (fun _ => ?_))
   | exact ih0 _ _ _ _ _ _
   | exact ih1 _ _ _ _ _ _ _
   | exact ih2 _ _ _ _ _ _ _ _ _
   | exact credit_Reserve.mono _ _ _ _ _
   | exact stopgatelaw03_To.mono _ _
   | exact stopgatelaw04_From.mono _ _ _
   | exact stopgatelaw04_told.mono _
   | exact stopgateref03_Fix.mono _ _
   | exact stopgateref03_Path.mono _ _ _
   | exact LeO.none _
   | refine LeO.ite ?_ ?_
   | refine LeO.bind ?_ (fun _ => ?_)
  ·intro y0 y1 y2 y3 y4 y5 y6
   unfold stopgatelaw04_CreditEdges.j1
   repeat' first
   | (with_reducible exact ih0 _ _ _ _ _ _)
   | (with_reducible exact ih1 _ _ _ _ _ _ _)
   | (with_reducible exact ih2 _ _ _ _ _ _ _ _ _)
   | (with_reducible exact credit_Reserve.mono _ _ _ _ _)
   | (with_reducible exact stopgatelaw03_To.mono _ _)
   | (with_reducible exact stopgatelaw04_From.mono _ _ _)
   | (with_reducible exact stopgatelaw04_told.mono _)
   | (with_reducible exact stopgateref03_Fix.mono _ _)
   | (with_reducible exact stopgateref03_Path.mono _ _ _)
   | (with_reducible exact LeO.refl _)
   | (with_reducible exact LeO.none _)
   | (with_reducible refine LeO.ite ?_ ?_)
   | (with_reducible refine LeO.bind ?_ (fun _ => ?_))
   | exact ih0 _ _ _ _ _ _
   | exact ih1 _ _ _ _ _ _ _
   | exact ih2 _ _ _ _ _ _ _ _ _
   | exact credit_Reserve.mono _ _ _ _ _
   | exact stopgatelaw03_To.mono _ _
   | exact stopgatelaw04_From.mono _ _ _
   | exact stopgatelaw04_told.mono _
   | exact stopgateref03_Fix.mono _ _
   | exact stopgateref03_Path.mono _ _ _
   | exact LeO.none _
   | refine LeO.ite ?_ ?_
   | refine LeO.bind ?_ (fun _ => ?_)
  ·intro y0 y1 y2 y3 y4 y5 y6 y7 y8
   unfold stopgatelaw04_CreditEdges.l1
   repeat' first
   | (with_reducible exact ih0 _ _ _ _ _ _)
   | (with_reducible exact ih1 _ _ _ _ _ _ _)
   | (with_reducible exact ih2 _ _ _ _ _ _ _ _ _)
   | (with_reducible exact credit_Reserve.mono _ _ _ _ _)
   | (with_reducible exact stopgatelaw03_To.mono _ _)
   | (with_reducible exact stopgatelaw04_From.mono _ _ _)
   | (with_reducible exact stopgatelaw04_told.mono _)
   | (with_reducible exact stopgateref03_Fix.mono _ _)
   | (with_reducible exact stopgateref03_Path.mono _ _ _)
   | (with_reducible exact LeO.refl _)
   | (with_reducible exact LeO.none _)
   | (with_reducible refine LeO.ite ?_ ?_)
   | (with_reducible refine LeO.bind ?_ (fun _ => ?_))
   | exact ih0 _ _ _ _ _ _
   | exact ih1 _ _ _ _ _ _ _
   | exact ih2 _ _ _ _ _ _ _ _ _
   | exact credit_Reserve.mono _ _ _ _ _
   | exact stopgatelaw03_To.mono _ _
   | exact stopgatelaw04_From.mono _ _ _
   | exact stopgatelaw04_told.mono _
   | exact stopgateref03_Fix.mono _ _
   | exact stopgateref03_Path.mono _ _ _
   | exact LeO.none _
   | refine LeO.ite ?_ ?_
   | refine LeO.bind ?_ (fun _ => ?_)
theorem stopgatelaw04_CreditEdges.mono : ∀ a0 a1 a2 k, LeO (stopgatelaw04_CreditEdges.f k a0 a1 a2) (stopgatelaw04_CreditEdges.f (k + 1) a0 a1 a2) := by
 intro a0 a1 a2 k
 obtain ⟨ih0, ih1, ih2⟩ := stopgatelaw04_CreditEdges.mono_l k
 unfold stopgatelaw04_CreditEdges.f
 repeat' first
   | (with_reducible exact ih0 _ _ _ _ _ _)
   | (with_reducible exact ih1 _ _ _ _ _ _ _)
   | (with_reducible exact ih2 _ _ _ _ _ _ _ _ _)
   | (with_reducible exact credit_Reserve.mono _ _ _ _ _)
   | (with_reducible exact stopgatelaw03_To.mono _ _)
   | (with_reducible exact stopgatelaw04_From.mono _ _ _)
   | (with_reducible exact stopgatelaw04_told.mono _)
   | (with_reducible exact stopgateref03_Fix.mono _ _)
   | (with_reducible exact stopgateref03_Path.mono _ _ _)
   | (with_reducible exact LeO.refl _)
   | (with_reducible exact LeO.none _)
   | (with_reducible refine LeO.ite ?_ ?_)
   | (with_reducible refine LeO.bind ?_ (fun _ => ?_))
   | exact ih0 _ _ _ _ _ _
   | exact ih1 _ _ _ _ _ _ _
   | exact ih2 _ _ _ _ _ _ _ _ _
   | exact credit_Reserve.mono _ _ _ _ _
   | exact stopgatelaw03_To.mono _ _
   | exact stopgatelaw04_From.mono _ _ _
   | exact stopgatelaw04_told.mono _
   | exact stopgateref03_Fix.mono _ _
   | exact stopgateref03_Path.mono _ _ _
   | exact LeO.none _
   | refine LeO.ite ?_ ?_
   | refine LeO.bind ?_ (fun _ => ?_)
def stopgatelaw04_CreditEdges.T7 : Bool × List (List Nat × List Nat) := (true, [([], []), ([], []), ([], []), ([1, 2], [1, 2]), ([3], [3]), ([4], [4]), ([], []), ([6], [6]), ([7], [7]), ([5, 8], [5, 8]), ([9], [9]), ([], []), ([], []), ([11, 12], [11, 12]), ([13], [13]), ([14], [14]), ([15], [15]), ([16], [16]), ([0, 10, 17], [0, 10, 17]), ([18], [18]), ([19], [19]), ([19], [19]), ([19], [19]), ([], []), ([23, 20, 18, 0, 1, 2, 3, 4, 5, 6, 7, 8, 9, 10, 11, 12, 13, 14, 15, 16, 17, 18, 19, 20, 23], [20, 23]), ([21, 24, 0, 1, 2, 3, 4, 5, 6, 7, 8, 9, 10, 11, 12, 13, 14, 15, 16, 17, 18, 19, 20, 21, 23, 24], [21]), ([22, 25, 0, 1, 2, 3, 4, 5, 6, 7, 8, 9, 10, 11, 12, 13, 14, 15, 16, 17, 18, 19, 20, 21, 22, 23, 24, 25], [22])])
def stopgatelaw04_CreditEdges.B7 : List Nat := [0, 0, 0, 6, 14, 30, 0, 64, 192, 510, 1022, 0, 0, 6144, 14336, 30720, 63488, 129024, 262143, 524287, 1048575, 1048575, 1048575, 0, 10485759, 29360127, 67108863]
theorem stopgatelaw04_CreditEdges.tab7 : rtab .any (opsOf Try.f12 7) = stopgatelaw04_CreditEdges.T7 := by kernel_rfl
theorem stopgatelaw04_CreditEdges.bits7 : waitsOk stopgatelaw04_CreditEdges.T7.2 stopgatelaw04_CreditEdges.B7 = true := by kernel_rfl
def stopgatelaw04_CreditEdges.T14 : Bool × List (List Nat × List Nat) := (true, [([], []), ([0], [0]), ([], []), ([2], [2]), ([3], [3]), ([1, 4], [1, 4]), ([5], [5]), ([6], [6]), ([], []), ([8], [8]), ([], []), ([10], [10]), ([11], [11]), ([9, 12], [9, 12]), ([13], [13]), ([7, 14], [7, 14]), ([15, 0, 1, 2, 3, 4, 5, 6, 7, 8, 9, 10, 11, 12, 13, 14, 15], [15]), ([16, 0, 1, 2, 3, 4, 5, 6, 7, 8, 9, 10, 11, 12, 13, 14, 15, 16], [])])
def stopgatelaw04_CreditEdges.B14 : List Nat := [0, 1, 0, 4, 12, 31, 63, 127, 0, 256, 0, 1024, 3072, 7936, 16128, 32767, 65535, 131071]
theorem stopgatelaw04_CreditEdges.tab14 : rtab .any (opsOf Try.f12 14) = stopgatelaw04_CreditEdges.T14 := by kernel_rfl
theorem stopgatelaw04_CreditEdges.bits14 : waitsOk stopgatelaw04_CreditEdges.T14.2 stopgatelaw04_CreditEdges.B14 = true := by kernel_rfl
def stopgatelaw04_CreditEdges.T18 : Bool × List (List Nat × List Nat) := (true, [([], []), ([0], [0]), ([], []), ([], []), ([2, 3], [2, 3]), ([4], [4]), ([1, 5], [1, 5]), ([6], [6]), ([7], [7]), ([], []), ([9], [9]), ([], []), ([], []), ([11, 12], [11, 12]), ([13], [13]), ([10, 14], [10, 14]), ([15], [15]), ([8, 16], [8, 16]), ([], []), ([17, 18], [17, 18])])
def stopgatelaw04_CreditEdges.B18 : List Nat := [0, 1, 0, 0, 12, 28, 63, 127, 255, 0, 512, 0, 0, 6144, 14336, 32256, 65024, 131071, 0, 524287]
theorem stopgatelaw04_CreditEdges.tab18 : rtab .any (opsOf Try.f12 18) = stopgatelaw04_CreditEdges.T18 := by kernel_rfl
theorem stopgatelaw04_CreditEdges.bits18 : waitsOk stopgatelaw04_CreditEdges.T18.2 stopgatelaw04_CreditEdges.B18 = true := by kernel_rfl
def stopgatelaw04_CreditEdges.T19 : Bool × List (List Nat × List Nat) := (true, [([], []), ([0], [0]), ([], []), ([], []), ([2, 3], [2, 3]), ([4], [4]), ([1, 5], [1, 5]), ([6], [6]), ([7], [7]), ([], []), ([9], [9]), ([], []), ([], []), ([11, 12], [11, 12]), ([13], [13]), ([10, 14], [10, 14]), ([15], [15]), ([8, 16], [8, 16]), ([], []), ([17, 0, 1, 2, 3, 4, 5, 6, 7, 8, 9, 10, 11, 12, 13, 14, 15, 16, 17], [17]), ([18, 19, 0, 1, 2, 3, 4, 5, 6, 7, 8, 9, 10, 11, 12, 13, 14, 15, 16, 17, 18, 19], [18])])
def stopgatelaw04_CreditEdges.B19 : List Nat := [0, 1, 0, 0, 12, 28, 63, 127, 255, 0, 512, 0, 0, 6144, 14336, 32256, 65024, 131071, 0, 262143, 1048575]
theorem stopgatelaw04_CreditEdges.tab19 : rtab .any (opsOf Try.f12 19) = stopgatelaw04_CreditEdges.T19 := by kernel_rfl
theorem stopgatelaw04_CreditEdges.bits19 : waitsOk stopgatelaw04_CreditEdges.T19.2 stopgatelaw04_CreditEdges.B19 = true := by kernel_rfl
set_option maxHeartbeats 8000000 in
set_option maxRecDepth 100000 in
theorem stopgatelaw04_CreditEdges.calls (k : Nat) (A0 : Option Addr) (c0 : Nat) (l0 : List (S68)) (a1 : Int) (A2 : Option Addr) (c2 : Nat) (l2 : List Int) (r : Bool) (w : World) (hr0 : Kd.C k68 w A0 l0.length l0) (hc0 : l0.length ≤ c0) (hr2 : Kd.C (Kd.int .i64) w A2 l2.length l2) (hc2 : l2.length ≤ c2) (h : stopgatelaw04_CreditEdges.f k l0 a1 l2 = some r) :
  Calls Try.prog 12 #[.slice A0 l0.length c0, .int .i64 a1, .slice A2 l2.length c2] w fun e w' => e = .returned (.bool r) ∧ Below w.heap.size w w' := by
 have hu61 := Try.underlying61
 have hu58 := Try.underlying58
 have HR0 := Aside0.mk hr0
 have HC0 := Aside0.mk hc0
 clear hr0 hc0
 have HR2 := Aside0.mk hr2
 have HC2 := Aside0.mk hc2
 clear hr2 hc2
 have HB := Aside0.mk (Below.refl w.heap.size w)
 have H : ((stopgateref03_Fix.f k l0).bind fun t264 => ((stopgatelaw03_To.f k t264).bind fun t267 => ((credit_Begin.f t267).bind fun bt270 => (if (IntKind.u64.wrap ((t264.length : Int))) = 0 then (none) else (stopgatelaw04_CreditEdges.l0 k l2 t264 (wrap64 (Int.tmod (IntKind.u64.wrap (a1)) (IntKind.u64.wrap ((t264.length : Int))))) 0 bt270.1 bt270.2))))) = some r := h
 clear h
 replace H := Option.bind_eq_some_iff.mp H
 obtain ⟨t264, A40, H⟩ := H
 replace H : ((stopgatelaw03_To.f k t264).bind fun t267 => ((credit_Begin.f t267).bind fun bt270 => (if (IntKind.u64.wrap ((t264.length : Int))) = 0 then (none) else (stopgatelaw04_CreditEdges.l0 k l2 t264 (wrap64 (Int.tmod (IntKind.u64.wrap (a1)) (IntKind.u64.wrap ((t264.length : Int))))) 0 bt270.1 bt270.2)))) = some r := H
 have A4 := Aside0.mk A40
 clear A40
 replace H := Option.bind_eq_some_iff.mp H
 obtain ⟨t267, A50, H⟩ := H
 replace H : ((credit_Begin.f t267).bind fun bt270 => (if (IntKind.u64.wrap ((t264.length : Int))) = 0 then (none) else (stopgatelaw04_CreditEdges.l0 k l2 t264 (wrap64 (Int.tmod (IntKind.u64.wrap (a1)) (IntKind.u64.wrap ((t264.length : Int))))) 0 bt270.1 bt270.2))) = some r := H
 have A5 := Aside0.mk A50
 clear A50
 replace H := Option.bind_eq_some_iff.mp H
 obtain ⟨⟨t270, t273⟩, A60, H⟩ := H
 replace H : (if (IntKind.u64.wrap ((t264.length : Int))) = 0 then (none) else (stopgatelaw04_CreditEdges.l0 k l2 t264 (wrap64 (Int.tmod (IntKind.u64.wrap (a1)) (IntKind.u64.wrap ((t264.length : Int))))) 0 t270 t273)) = some r := H
 have A6 := Aside0.mk A60
 clear A60
 by_cases c7 : (IntKind.u64.wrap ((t264.length : Int))) = 0
 ·rw [if_pos c7] at H
  exact absurd H (by simp)
 ·rw [if_neg c7] at H
  have c7b0 : ((IntKind.u64.wrap ((t264.length : Int))) == 0) = false := beq_eq_false_iff_ne.mpr c7
  have c7b1 : ((IntKind.u64.wrap ((t264.length : Int))) != 0) = true := bne_iff_ne.mpr c7
  have H' := Aside0.mk H
  clear H
  go_enter Try.func12, Try.ntmps12
  go_wp2_with (first | ((with_reducible refine gate_callee (f := 28) rfl ?_); refine goesL_ (some 26) rfl rfl Try.func28 (by kernel_rfl) rfl #[.slice A0 l0.length c0] rfl (by (try simp only [List.map_toArray, List.map_cons, List.map_nil]); first | done | rfl | (simp only [List.length_drop, List.length_take]; rfl)) ?_; (with_reducible refine (stopgateref03_Fix.calls k _ _ l0 t264 _ ?side1 ?side2 A4.out).mono ?_); (case side1 => repeat (first | exact HR0.out | (with_reducible refine Kd.C_alloc ?_ _) | (with_reducible refine Kd.C_drewN ?_ _) | (with_reducible refine Kd.C_drew ?_))); (case side2 => exact HC0.out); rintro e w8 ⟨v265, rfl, ho0, hb⟩; refine ⟨_, rfl, ?_⟩; have n0_ := Aside0.mk (Kd.R_lower ho0 (below_size (by repeat (first | (with_reducible first | exact HB.out | apply below_alloc | apply pw_below_drewN | apply below_drew1) | exact HB.out)))); have n1_ := Aside0.mk (below_step (by repeat (first | (with_reducible first | exact HB.out | apply below_alloc | apply pw_below_drewN | apply below_drew1) | exact HB.out)) hb); clear HB; have HO266 := n0_; have HB := n1_; clear n0_ n1_; (try clear hb); (try clear hb2); (try clear hk); (try clear hi); (try clear ho0); obtain ⟨Ao9, co9, eo9⟩ := Kd.R_slice HO266.out; subst eo9) | ((with_reducible refine gate_callee (f := 25) rfl ?_); refine goesL_ (some 28) rfl rfl Try.func25 (by kernel_rfl) rfl #[.slice Ao9 t264.length co9] rfl (by (try simp only [List.map_toArray, List.map_cons, List.map_nil]); first | done | rfl | (simp only [List.length_drop, List.length_take]; rfl)) ?_; (with_reducible refine (stopgatelaw03_To.calls k _ _ t264 t267 _ ?side1 ?side2 A5.out).mono ?_); (case side1 => repeat (first | exact (Kd.R_reads' HO266.out).2.2 | (with_reducible refine Kd.C_alloc ?_ _) | (with_reducible refine Kd.C_drewN ?_ _) | (with_reducible refine Kd.C_drew ?_))); (case side2 => exact (Kd.R_reads' HO266.out).2.1); rintro e w10 ⟨v268, rfl, ho0, hb⟩; refine ⟨_, rfl, ?_⟩; have n0_ := Aside0.mk (Kd.R_below (by (with_reducible repeat (first | apply Kd.R_alloc | apply Kd.R_drewN | apply Kd.R_drew)); exact HO266.out) hb); have n1_ := Aside0.mk (Kd.R_lower ho0 (below_size (by repeat (first | (with_reducible first | exact HB.out | apply below_alloc | apply pw_below_drewN | apply below_drew1) | exact HB.out)))); have n2_ := Aside0.mk (below_step (by repeat (first | (with_reducible first | exact HB.out | apply below_alloc | apply pw_below_drewN | apply below_drew1) | exact HB.out)) hb); clear HO266; clear HB; have HO266 := n0_; have HO269 := n1_; have HB := n2_; clear n0_ n1_ n2_; (try clear hb); (try clear hb2); (try clear hk); (try clear hi); (try clear ho0); obtain ⟨Ao11, co11, eo11⟩ := Kd.R_slice HO269.out; subst eo11) | ((with_reducible refine gate_callee (f := 47) rfl ?_); refine goesL_ (some 29) rfl rfl Try.func47 (by kernel_rfl) rfl #[.slice Ao11 t267.length co11] rfl (by (try simp only [List.map_toArray, List.map_cons, List.map_nil]); first | done | rfl | (simp only [List.length_drop, List.length_take]; rfl)) ?_; (with_reducible refine (credit_Begin.calls _ _ t267 t270 t273 _ ?side1 ?side2 A6.out).mono ?_); (case side1 => repeat (first | exact (Kd.R_reads' HO269.out).2.2 | (with_reducible refine Kd.C_alloc ?_ _) | (with_reducible refine Kd.C_drewN ?_ _) | (with_reducible refine Kd.C_drew ?_))); (case side2 => exact (Kd.R_reads' HO269.out).2.1); rintro e w12 ⟨v271, v274, rfl, ho0, ho1, hb⟩; refine ⟨_, rfl, ?_⟩; have n0_ := Aside0.mk (Kd.R_below (by (with_reducible repeat (first | apply Kd.R_alloc | apply Kd.R_drewN | apply Kd.R_drew)); exact HO266.out) hb); have n1_ := Aside0.mk (Kd.R_elder' (by (with_reducible repeat (first | apply Kd.R_alloc | apply Kd.R_drewN | apply Kd.R_drew)); exact HO269.out) (Kd.R_base ho0) hb); have n2_ := Aside0.mk (Kd.R_lower (Kd.R_new' ho0 (Kd.R_lt (by (with_reducible repeat (first | apply Kd.R_alloc | apply Kd.R_drewN | apply Kd.R_drew)); exact HO269.out))) (below_size (by repeat (first | (with_reducible first | exact HB.out | apply below_alloc | apply pw_below_drewN | apply below_drew1) | exact HB.out)))); have n3_ := Aside0.mk (Kd.R_lower ho1 (below_size (by repeat (first | (with_reducible first | exact HB.out | apply below_alloc | apply pw_below_drewN | apply below_drew1) | exact HB.out)))); have n4_ := Aside0.mk (below_step (by repeat (first | (with_reducible first | exact HB.out | apply below_alloc | apply pw_below_drewN | apply below_drew1) | exact HB.out)) hb); clear HO266; clear HO269; clear HB; have HO266 := n0_; have HO269 := n1_; have HO272 := n2_; have HO275 := n3_; have HB := n4_; clear n0_ n1_ n2_ n3_ n4_; (try clear hb); (try clear hb2); (try clear hk); (try clear hi); (try clear ho0); (try clear ho1)) | ((with_reducible refine gate_dst (N := 8) rfl ?_); (try (refine gate_guard (by rfl) ?_; dsimp only)); refine box_event ?hg (N := 8) ?hd (cs := #[.slice none 0 0, .slice none 0 0]) (t := 61) ?hr ?_; (case hd => rfl); (case hg => rfl); (case hr => first | (go_simp; done) | (go_simp; rfl)); intro gb276 hg w13 hbox hb; have n0_ := Aside0.mk (Kd.R_below (by (with_reducible repeat (first | apply Kd.R_alloc | apply Kd.R_drewN | apply Kd.R_drew)); exact HO266.out) hb); have n1_ := Aside0.mk (Kd.R_below (by (with_reducible repeat (first | apply Kd.R_alloc | apply Kd.R_drewN | apply Kd.R_drew)); exact HO269.out) hb); have n2_ := Aside0.mk (Kd.R_below (by (with_reducible repeat (first | apply Kd.R_alloc | apply Kd.R_drewN | apply Kd.R_drew)); exact HO272.out) hb); have n3_ := Aside0.mk (Kd.R_below (by (with_reducible repeat (first | apply Kd.R_alloc | apply Kd.R_drewN | apply Kd.R_drew)); exact HO275.out) hb); have n4_ := Aside0.mk (below_step (by repeat (first | (with_reducible first | exact HB.out | apply below_alloc | apply pw_below_drewN | apply below_drew1) | exact HB.out)) hb); have n5_ := Aside0.mk (hbox); have n6_ := Aside0.mk ((by rw [hg]; exact (below_size (by repeat (first | (with_reducible first | exact HB.out | apply below_alloc | apply pw_below_drewN | apply below_drew1) | exact HB.out))) : w.heap.size ≤ gb276)); have n7_ := Aside0.mk ((by rw [hg]; exact (below_size (by repeat (first | (with_reducible first | exact HB.out | apply below_alloc | apply pw_below_drewN | apply below_drew1) | exact HB.out))) : w.heap.size ≤ gb276)); clear HO266; clear HO269; clear HO272; clear HO275; clear HB; have HO266 := n0_; have HO269 := n1_; have HO272 := n2_; have HO275 := n3_; have HB := n4_; have BK276 := n5_; have GW276 := n6_; have GE276 := n7_; clear n0_ n1_ n2_ n3_ n4_ n5_ n6_ n7_; clear hb hbox hg; obtain ⟨Ao14, co14, eo14⟩ := Kd.R_slice HO272.out; subst eo14; have hcz15_0 : w13.cell? ⟨gb276, 0, none⟩ = some (.slice none 0 0) := (blk_cell BK276.out 0).trans rfl; have hcz15_1 : w13.cell? ⟨gb276, 1, none⟩ = some (.slice none 0 0) := (blk_cell BK276.out 1).trans rfl; have hfz15_0 := blk_frozen BK276.out 0; have hfz15_1 := blk_frozen BK276.out 1; obtain ⟨Ao16, co16, eo16⟩ := Kd.R_slice HO275.out; subst eo16))
  go_loopg [10] k (fun kq v10 w' => ∃ (x10_1 : Int) (x277000_1 : List (S43)) (x277001_1 : List Int) (u277000 : Value) (u277001 : Value), v10 = .int .i64 x10_1 ∧ Aside0 (stopgatelaw04_CreditEdges.l0 kq l2 t264 (wrap64 (Int.tmod (IntKind.u64.wrap (a1)) (IntKind.u64.wrap ((t264.length : Int))))) x10_1 x277000_1 x277001_1 = some r) ∧ Aside0 (kq ≤ k) ∧ Aside0 (Kd.R k68 68 w' w.heap.size (fun _ => True) (.slice Ao9 t264.length co9) t264) ∧ Aside0 (Kd.V k43 43 w' w.heap.size (fun k_ => some k_ ≠ ((.slice Ao9 t264.length co9) : Value).ownBlock ∧ k_ ≠ gb276) u277000 x277000_1) ∧ Aside0 (Kd.V (Kd.int .i64) 2 w' w.heap.size (fun k_ => some k_ ≠ ((.slice Ao9 t264.length co9) : Value).ownBlock ∧ k_ ≠ gb276) u277001 x277001_1) ∧ Aside0 (w'.heap[gb276]? = some (.cells #[u277000, u277001] 61 (0, 0))) ∧ Aside0 (Below w.heap.size w w'))
  case atStart => exact ⟨(0), (t270), (t273), (.slice Ao14 t270.length co14), (.slice Ao16 t273.length co16), (by first | rfl | (simp; done) | (simp [*]; done)), H', ⟨Nat.le_refl _⟩, ⟨by (with_reducible repeat (first | apply Kd.R_alloc | apply Kd.R_drewN | apply Kd.R_drew)); exact Kd.R_mono (Kd.R_far (p := ⟨gb276, 1, none⟩) (Kd.R_far (p := ⟨gb276, 0, none⟩) (Kd.R_types HO266.out BK276.out (by decide)) (fun _ hk => hk.2) (.slice Ao14 t270.length co14)) (fun _ hk => hk.2) (.slice Ao16 t273.length co16)) (fun _ hk => trivial)⟩, ⟨Kd.R_V (by (with_reducible repeat (first | apply Kd.R_alloc | apply Kd.R_drewN | apply Kd.R_drew)); exact Kd.R_mono (Kd.R_far (p := ⟨gb276, 1, none⟩) (Kd.R_far (p := ⟨gb276, 0, none⟩) (Kd.R_types (Kd.R_types (Kd.R_apart' HO272.out (Kd.R_typed HO266.out) (by decide)) BK276.out (by decide)) BK276.out (by decide)) (fun _ hk => hk.2) (.slice Ao14 t270.length co14)) (fun _ hk => hk.2) (.slice Ao16 t273.length co16)) (fun _ hk => ⟨hk.1.1.2, hk.1.2⟩))⟩, ⟨Kd.R_V (by (with_reducible repeat (first | apply Kd.R_alloc | apply Kd.R_drewN | apply Kd.R_drew)); exact Kd.R_mono (Kd.R_far (p := ⟨gb276, 1, none⟩) (Kd.R_far (p := ⟨gb276, 0, none⟩) (Kd.R_types (Kd.R_types (Kd.R_apart' HO275.out (Kd.R_typed HO266.out) (by decide)) BK276.out (by decide)) BK276.out (by decide)) (fun _ hk => hk.2) (.slice Ao14 t270.length co14)) (fun _ hk => hk.2) (.slice Ao16 t273.length co16)) (fun _ hk => ⟨hk.1.1.2, hk.1.2⟩))⟩, ⟨by (with_reducible repeat (first | refine blk_drewN ?_ _ | refine blk_drew ?_ | refine blk_alloc ?_ _)); refine blk_put (cs := #[.slice Ao14 t270.length co14, .slice none 0 0]) ?_ 1 _ rfl; (with_reducible repeat (first | refine blk_drewN ?_ _ | refine blk_drew ?_ | refine blk_alloc ?_ _)); refine blk_put (cs := #[.slice none 0 0, .slice none 0 0]) ?_ 0 _ rfl; (with_reducible repeat (first | refine blk_drewN ?_ _ | refine blk_drew ?_ | refine blk_alloc ?_ _)); exact BK276.out⟩, ⟨by repeat (first | (with_reducible first | exact HB.out | apply below_alloc | apply pw_below_drewN | apply below_drew1 | refine below_set ?_ GE276.out) | exact HB.out)⟩⟩
  case round =>
   clear H'
   try clear c1
   try clear c2
   try clear p2
   try clear c4
   try clear p6
   try clear c7
   try clear c7b0
   try clear c7b1
   try clear c12
   try clear hcz15_0
   try clear hcz15_1
   try clear hfz15_0
   try clear hfz15_1
   obtain ⟨x10_1, x277000_1, x277001_1, u277000, u277001, rfl, HA, HK1, HO_7, HO_277000, HO_277001, BK276, HB⟩ := hrel
   cases gk with
   | zero => exact absurd HA.out (by simp [stopgatelaw04_CreditEdges.l0])
   | succ k1 =>
    have H := HA.out
    clear HA
    simp only [stopgatelaw04_CreditEdges.l0] at H
    have HC17 := Aside0.mk H
    clear H
    go_upto_region 5 with (fail)
    go_cut [44] (fun v44 wc => ∃ (kq : Nat) (x44_16 : Bool), v44 = .bool x44_16 ∧ Aside0 (stopgatelaw04_CreditEdges.j1 kq l2 t264 (wrap64 (Int.tmod (IntKind.u64.wrap (a1)) (IntKind.u64.wrap ((t264.length : Int))))) x10_1 x44_16 x277000_1 x277001_1 = some r) ∧ Aside0 (kq ≤ k1) ∧ Aside0 (Kd.R k68 68 wc w.heap.size (fun _ => True) (.slice Ao9 t264.length co9) t264) ∧ Aside0 (Kd.V k43 43 wc w.heap.size (fun k_ => some k_ ≠ ((.slice Ao9 t264.length co9) : Value).ownBlock ∧ k_ ≠ gb276) u277000 x277000_1) ∧ Aside0 (Kd.V (Kd.int .i64) 2 wc w.heap.size (fun k_ => some k_ ≠ ((.slice Ao9 t264.length co9) : Value).ownBlock ∧ k_ ≠ gb276) u277001 x277001_1) ∧ Aside0 (wc.heap[gb276]? = some (.cells #[u277000, u277001] 61 (0, 0))) ∧ Aside0 (Below w.heap.size w wc))
    case first =>
     have H := HC17.out
     clear HC17
     by_cases c18 : x10_1 < (l2.length : Int)
     ·rw [if_pos c18] at H
      have c18b0 : decide (x10_1 < (l2.length : Int)) = true := decide_eq_true c18
      clear c18
      (first | rw [c18b0] | (simp only [i64_w, i32_w]; rw [c18b0]) | skip)
      have H' := Aside0.mk H
      clear H
      go_wp2
      go_meet
      case rel => exact ⟨_, (decide (x10_1 < 10)), (by first | rfl | (simp; done) | (simp [*]; done)), H', ⟨by have := HK1.out; first | omega | exact Nat.le_refl _⟩, ⟨by (with_reducible repeat (first | apply Kd.R_alloc | apply Kd.R_drewN | apply Kd.R_drew)); exact HO_7.out⟩, ⟨by (with_reducible repeat (first | apply Kd.V_alloc | apply Kd.V_drewN | apply Kd.V_drew)); exact HO_277000.out⟩, ⟨by (with_reducible repeat (first | apply Kd.V_alloc | apply Kd.V_drewN | apply Kd.V_drew)); exact HO_277001.out⟩, ⟨by (with_reducible repeat (first | refine blk_drewN ?_ _ | refine blk_drew ?_ | refine blk_alloc ?_ _)); exact BK276.out⟩, ⟨by repeat (first | (with_reducible first | exact HB.out | apply below_alloc | apply pw_below_drewN | apply below_drew1 | refine below_set ?_ GE276.out) | exact HB.out)⟩⟩
     ·rw [if_neg c18] at H
      have c18b0 : decide (x10_1 < (l2.length : Int)) = false := decide_eq_false c18
      clear c18
      (first | rw [c18b0] | (simp only [i64_w, i32_w]; rw [c18b0]) | skip)
      have H' := Aside0.mk H
      clear H
      go_wp2
      go_meet
      case rel => exact ⟨_, (false), (by first | rfl | (simp; done) | (simp [*]; done)), H', ⟨by have := HK1.out; first | omega | exact Nat.le_refl _⟩, ⟨by (with_reducible repeat (first | apply Kd.R_alloc | apply Kd.R_drewN | apply Kd.R_drew)); exact HO_7.out⟩, ⟨by (with_reducible repeat (first | apply Kd.V_alloc | apply Kd.V_drewN | apply Kd.V_drew)); exact HO_277000.out⟩, ⟨by (with_reducible repeat (first | apply Kd.V_alloc | apply Kd.V_drewN | apply Kd.V_drew)); exact HO_277001.out⟩, ⟨by (with_reducible repeat (first | refine blk_drewN ?_ _ | refine blk_drew ?_ | refine blk_alloc ?_ _)); exact BK276.out⟩, ⟨by repeat (first | (with_reducible first | exact HB.out | apply below_alloc | apply pw_below_drewN | apply below_drew1 | refine below_set ?_ GE276.out) | exact HB.out)⟩⟩
    case rest =>
     clear HC17
     try clear c1
     try clear c2
     try clear p2
     try clear c4
     try clear p6
     try clear c7
     try clear c7b0
     try clear c7b1
     try clear c12
     try clear c18
     try clear c18b0
     try clear hcz15_0
     try clear hcz15_1
     try clear hfz15_0
     try clear hfz15_1
     try clear p2
     try clear p6
     obtain ⟨kq, x44_16, rfl, HA, HJ16, HO_7, HO_277000, HO_277001, BK276, HB⟩ := hcut
     cases kq with
     | zero => exact absurd HA.out (by simp [stopgatelaw04_CreditEdges.j1])
     | succ kj16 =>
      have H := HA.out
      clear HA
      simp only [stopgatelaw04_CreditEdges.j1] at H
      by_cases c19 : x44_16 = true
      ·subst c19
       have H1 : (if 0 ≤ x10_1 then (if x10_1 < (l2.length : Int) then (if (IntKind.u64.wrap ((t264.length : Int))) = 0 then (none) else ((credit_Reserve.f kj16 x277000_1 x277001_1 (wrap64 (Int.tmod (IntKind.u64.wrap (rd l2 x10_1)) (IntKind.u64.wrap ((t264.length : Int))))) (wrap64 (Int.tmod (IntKind.u64.wrap (rd l2 x10_1)) 1000))).bind fun bt279 => (if bt279.2.2.1 = 0 then (stopgatelaw04_CreditEdges.l0 kj16 l2 t264 (wrap64 (Int.tmod (IntKind.u64.wrap (a1)) (IntKind.u64.wrap ((t264.length : Int))))) (wrap64 (x10_1 + 1)) bt279.1 bt279.2.1) else (stopgatelaw04_CreditEdges.l0 kj16 l2 t264 (wrap64 (Int.tmod (IntKind.u64.wrap (a1)) (IntKind.u64.wrap ((t264.length : Int))))) (wrap64 (x10_1 + 1)) x277000_1 x277001_1)))) else (none)) else (none)) = some r := by rw [if_pos rfl] at H; exact H
       clear H
       have H := H1
       clear H1
       by_cases c20 : 0 ≤ x10_1
       ·rw [if_pos c20] at H
        have c20b0 : decide (0 ≤ x10_1) = true := decide_eq_true c20
        clear c20
        by_cases c21 : x10_1 < (l2.length : Int)
        ·rw [if_pos c21] at H
         have c21b0 : decide (x10_1 < (l2.length : Int)) = true := decide_eq_true c21
         clear c21
         by_cases c22 : (IntKind.u64.wrap ((t264.length : Int))) = 0
         ·rw [if_pos c22] at H
          exact absurd H (by simp)
         ·rw [if_neg c22] at H
          have c22b0 : ((IntKind.u64.wrap ((t264.length : Int))) == 0) = false := beq_eq_false_iff_ne.mpr c22
          have c22b1 : ((IntKind.u64.wrap ((t264.length : Int))) != 0) = true := bne_iff_ne.mpr c22
          replace H := Option.bind_eq_some_iff.mp H
          obtain ⟨⟨t279, t282, t285, t286⟩, A230, H⟩ := H
          replace H : (if t285 = 0 then (stopgatelaw04_CreditEdges.l0 kj16 l2 t264 (wrap64 (Int.tmod (IntKind.u64.wrap (a1)) (IntKind.u64.wrap ((t264.length : Int))))) (wrap64 (x10_1 + 1)) t279 t282) else (stopgatelaw04_CreditEdges.l0 kj16 l2 t264 (wrap64 (Int.tmod (IntKind.u64.wrap (a1)) (IntKind.u64.wrap ((t264.length : Int))))) (wrap64 (x10_1 + 1)) x277000_1 x277001_1)) = some r := H
          have A23 := Aside0.mk A230
          clear A230
          by_cases c24 : t285 = 0
          ·rw [if_pos c24] at H
           have c24b0 : (t285 == 0) = true := beq_iff_eq.mpr c24
           have c24b1 : (t285 != 0) = false := bne_eq_false_iff_eq.mpr c24
           clear c24
           have H' := Aside0.mk H
           clear H
           obtain ⟨Ao25, co25, eo25⟩ := Kd.V_slice HO_277000.out
           subst eo25
           obtain ⟨Ao26, co26, eo26⟩ := Kd.V_slice HO_277001.out
           subst eo26
           try go_wp2
           have n0_ := Aside0.mk (Kd.R_drew HO_7.out)
           have n1_ := Aside0.mk (Kd.V_drew HO_277000.out)
           have n2_ := Aside0.mk (Kd.V_drew HO_277001.out)
           have n3_ := Aside0.mk (blk_drew BK276.out)
           have n4_ := Aside0.mk (below_drew1 HB.out)
           clear HO_7
           clear HO_277000
           clear HO_277001
           clear BK276
           clear HB
           have HO_7 := n0_
           have HO_277000 := n1_
           have HO_277001 := n2_
           have BK276 := n3_
           have HB := n4_
           clear n0_ n1_ n2_ n3_ n4_
           have p277 : 0 ≤ (x10_1 : Int) := of_decide_eq_true (by first | (with_reducible assumption) | assumption)
           have q277 : x10_1 < (l2.length : Int) := of_decide_eq_true (by first | (with_reducible assumption) | assumption)
           obtain ⟨ad277, e277, hx277_0⟩ := Kd.at_int HR2.out x10_1 p277 q277
           have hw277_0 := hx277_0
           cases e277
           replace hx277_0 := (HB.out.cell (World.block_lt_of_cell? w _ hx277_0)).trans hx277_0
           replace p277 := eq_true p277
           replace q277 := eq_true q277
           have p278 : 0 ≤ (x10_1 : Int) := of_decide_eq_true (by first | (with_reducible assumption) | assumption)
           have q278 : x10_1 < (l2.length : Int) := of_decide_eq_true (by first | (with_reducible assumption) | assumption)
           obtain ⟨ad278, e278, hx278_0⟩ := Kd.at_int HR2.out x10_1 p278 q278
           have hw278_0 := hx278_0
           obtain rfl : ad277 = ad278 := (by injection e278)
           replace hx278_0 := (HB.out.cell (World.block_lt_of_cell? w _ hx278_0)).trans hx278_0
           replace p278 := eq_true p278
           replace q278 := eq_true q278
           refine start_ (n := 27) (S := fun w' => w'.cell? ⟨gb276, 0, none⟩ = some (.slice Ao25 x277000_1.length co25) ∧ w'.cell? ⟨gb276, 1, none⟩ = some (.slice Ao26 x277001_1.length co26) ∧ w'.cell? (ad277.add (x10_1).toNat) = some (.int .i64 (rd l2 x10_1)) ∧ w'.cell? (ad277.add (x10_1).toNat) = some (.int .i64 (rd l2 x10_1))) (ds := []) #[false, false, false, false, false, false, false, false, false, false, false, false, false, false, false, false, false, false, false, false, false, false, false, false, false, false, false] (by kernel_rfl) rfl rfl ⟨(blk_cell BK276.out 0).trans rfl, (blk_cell BK276.out 1).trans rfl, ((HB.out.cell (World.block_lt_of_cell? w _ hw277_0)).trans hw277_0), ((HB.out.cell (World.block_lt_of_cell? w _ hw278_0)).trans hw278_0)⟩ (fun hHeld => ?_); refine with_tabW stopgatelaw04_CreditEdges.tab7 stopgatelaw04_CreditEdges.bits7 (fun HT_ HW_ => ?_)
           generalize wc.drew = w27 at HO_7 HO_277000 HO_277001 BK276 HB hx277_0 hx278_0 hHeld ⊢
           refine pure_ (i := 1) (N := some 49) (v := ?_) (a' := ?_) #[false, true, false, false, false, false, false, false, false, false, false, false, false, false, false, false, false, false, false, false, false, false, false, false, false, false, false] rfl rfl (any_of HT_.out (by kernel_rfl)) (fun _ _ _ h => h) (Or.inl ⟨by rfl, ?_⟩) ?_ ?_
           rotate_left
           ·intro w'
            go_simp
            with_reducible rfl
           rotate_left
           ·simp only [Act.put, List.setIfInBounds_toArray, List.set_cons_zero, List.set_cons_succ, i64_w, i32_w]
            rfl
           refine pure_ (i := 2) (N := some 50) (v := ?_) (a' := ?_) #[false, true, true, false, false, false, false, false, false, false, false, false, false, false, false, false, false, false, false, false, false, false, false, false, false, false, false] rfl rfl (any_of HT_.out (by kernel_rfl)) (fun _ _ _ h => h) (Or.inl ⟨by rfl, ?_⟩) ?_ ?_
           rotate_left
           ·intro w'
            go_simp
            with_reducible rfl
           rotate_left
           ·simp only [Act.put, List.setIfInBounds_toArray, List.set_cons_zero, List.set_cons_succ, i64_w, i32_w]
            rfl
           refine pure_ (i := 3) (N := some 51) (v := ?_) (a' := ?_) #[false, true, true, true, false, false, false, false, false, false, false, false, false, false, false, false, false, false, false, false, false, false, false, false, false, false, false] rfl rfl (any_of HT_.out (by kernel_rfl)) (fun _ _ _ h => h) (Or.inl ⟨by rfl, ?_⟩) ?_ ?_
           rotate_left
           ·intro w'
            go_simp
            with_reducible rfl
           rotate_left
           ·simp only [Act.put, List.setIfInBounds_toArray, List.set_cons_zero, List.set_cons_succ, i64_w, i32_w]
            rfl
           refine pure_ (i := 6) (N := some 54) (v := ?_) (a' := ?_) #[false, true, true, true, false, false, true, false, false, false, false, false, false, false, false, false, false, false, false, false, false, false, false, false, false, false, false] rfl rfl (any_of HT_.out (by kernel_rfl)) (fun _ _ _ h => h) (Or.inl ⟨by rfl, ?_⟩) ?_ ?_
           rotate_left
           ·intro w'
            go_simp
            with_reducible rfl
           rotate_left
           ·simp only [Act.put, List.setIfInBounds_toArray, List.set_cons_zero, List.set_cons_succ, i64_w, i32_w]
            rfl
           refine pure_ (i := 7) (N := some 55) (v := ?_) (a' := ?_) #[false, true, true, true, false, false, true, true, false, false, false, false, false, false, false, false, false, false, false, false, false, false, false, false, false, false, false] rfl rfl (any_of HT_.out (by kernel_rfl)) (fun _ _ _ h => h) (Or.inl ⟨by rfl, ?_⟩) ?_ ?_
           rotate_left
           ·intro w'
            go_simp
            with_reducible rfl
           rotate_left
           ·simp only [Act.put, List.setIfInBounds_toArray, List.set_cons_zero, List.set_cons_succ, i64_w, i32_w]
            rfl
           refine pure_ (i := 8) (N := some 56) (v := ?_) (a' := ?_) #[false, true, true, true, false, false, true, true, true, false, false, false, false, false, false, false, false, false, false, false, false, false, false, false, false, false, false] rfl rfl (any_of HT_.out (by kernel_rfl)) (fun _ _ _ h => h) (Or.inl ⟨by rfl, ?_⟩) ?_ ?_
           rotate_left
           ·intro w'
            go_simp
            with_reducible rfl
           rotate_left
           ·simp only [Act.put, List.setIfInBounds_toArray, List.set_cons_zero, List.set_cons_succ, i64_w, i32_w]
            rfl
           refine pure_ (i := 11) (N := some 59) (v := ?_) (a' := ?_) #[false, true, true, true, false, false, true, true, true, false, false, true, false, false, false, false, false, false, false, false, false, false, false, false, false, false, false] rfl rfl (any_of HT_.out (by kernel_rfl)) (fun _ _ _ h => h) (Or.inl ⟨by rfl, ?_⟩) ?_ ?_
           rotate_left
           ·intro w'
            go_simp
            with_reducible rfl
           rotate_left
           ·simp only [Act.put, List.setIfInBounds_toArray, List.set_cons_zero, List.set_cons_succ, i64_w, i32_w]
            rfl
           refine pure_ (i := 12) (N := some 60) (v := ?_) (a' := ?_) #[false, true, true, true, false, false, true, true, true, false, false, true, true, false, false, false, false, false, false, false, false, false, false, false, false, false, false] rfl rfl (any_of HT_.out (by kernel_rfl)) (fun _ _ _ h => h) (Or.inl ⟨by rfl, ?_⟩) ?_ ?_
           rotate_left
           ·intro w'
            go_simp
            with_reducible rfl
           rotate_left
           ·simp only [Act.put, List.setIfInBounds_toArray, List.set_cons_zero, List.set_cons_succ, i64_w, i32_w]
            rfl
           refine pure_ (i := 13) (N := some 61) (v := ?_) (a' := ?_) #[false, true, true, true, false, false, true, true, true, false, false, true, true, true, false, false, false, false, false, false, false, false, false, false, false, false, false] rfl rfl (any_of HT_.out (by kernel_rfl)) (fun _ _ _ h => h) (Or.inl ⟨by rfl, ?_⟩) ?_ ?_
           rotate_left
           ·intro w'
            go_simp
            with_reducible rfl
           rotate_left
           ·simp only [Act.put, List.setIfInBounds_toArray, List.set_cons_zero, List.set_cons_succ, i64_w, i32_w]
            rfl
           refine take_ (i := 0) (N := some 48) (v := ?_) (a' := ?_) #[true, true, true, true, false, false, true, true, true, false, false, true, true, true, false, false, false, false, false, false, false, false, false, false, false, false, false] rfl rfl (take_ofW HT_.out HW_.out (by kernel_rfl)) (fun _ _ _ h => h) (Or.inl ⟨by rfl, ?_⟩) hHeld ?_ ?_
           rotate_left
           ·rintro w' ⟨s0, s1, s2, s3⟩
            go_simp
            with_reducible rfl
           rotate_left
           ·simp only [Act.put, List.setIfInBounds_toArray, List.set_cons_zero, List.set_cons_succ, i64_w, i32_w]
            rfl
           refine take_ (i := 4) (N := some 52) (v := ?_) (a' := ?_) #[true, true, true, true, true, false, true, true, true, false, false, true, true, true, false, false, false, false, false, false, false, false, false, false, false, false, false] rfl rfl (take_ofW HT_.out HW_.out (by kernel_rfl)) (fun _ _ _ h => h) (Or.inl ⟨by rfl, ?_⟩) hHeld ?_ ?_
           rotate_left
           ·rintro w' ⟨s0, s1, s2, s3⟩
            go_simp
            with_reducible rfl
           rotate_left
           ·simp only [Act.put, List.setIfInBounds_toArray, List.set_cons_zero, List.set_cons_succ, i64_w, i32_w]
            rfl
           refine pure_ (i := 5) (N := some 53) (v := ?_) (a' := ?_) #[true, true, true, true, true, true, true, true, true, false, false, true, true, true, false, false, false, false, false, false, false, false, false, false, false, false, false] rfl rfl (any_of HT_.out (by kernel_rfl)) (fun _ _ _ h => h) (Or.inl ⟨by rfl, ?_⟩) ?_ ?_
           rotate_left
           ·intro w'
            go_simp
            with_reducible rfl
           rotate_left
           ·simp only [Act.put, List.setIfInBounds_toArray, List.set_cons_zero, List.set_cons_succ, i64_w, i32_w]
            rfl
           refine pure_ (i := 9) (N := some 57) (v := ?_) (a' := ?_) #[true, true, true, true, true, true, true, true, true, true, false, true, true, true, false, false, false, false, false, false, false, false, false, false, false, false, false] rfl rfl (any_of HT_.out (by kernel_rfl)) (fun _ _ _ h => h) (Or.inl ⟨by rfl, ?_⟩) ?_ ?_
           rotate_left
           ·intro w'
            go_simp
            with_reducible rfl
           rotate_left
           ·simp only [Act.put, List.setIfInBounds_toArray, List.set_cons_zero, List.set_cons_succ, i64_w, i32_w]
            rfl
           refine pure_ (i := 10) (N := some 58) (v := ?_) (a' := ?_) #[true, true, true, true, true, true, true, true, true, true, true, true, true, true, false, false, false, false, false, false, false, false, false, false, false, false, false] rfl rfl (any_of HT_.out (by kernel_rfl)) (fun _ _ _ h => h) (Or.inl ⟨by rfl, ?_⟩) ?_ ?_
           rotate_left
           ·intro w'
            go_simp
            with_reducible rfl
           rotate_left
           ·simp only [Act.put, List.setIfInBounds_toArray, List.set_cons_zero, List.set_cons_succ, i64_w, i32_w]
            rfl
           refine take_ (i := 14) (N := some 62) (v := ?_) (a' := ?_) #[true, true, true, true, true, true, true, true, true, true, true, true, true, true, true, false, false, false, false, false, false, false, false, false, false, false, false] rfl rfl (take_ofW HT_.out HW_.out (by kernel_rfl)) (fun _ _ _ h => h) (Or.inl ⟨by rfl, ?_⟩) hHeld ?_ ?_
           rotate_left
           ·rintro w' ⟨s0, s1, s2, s3⟩
            go_simp
            with_reducible rfl
           rotate_left
           ·simp only [Act.put, List.setIfInBounds_toArray, List.set_cons_zero, List.set_cons_succ, i64_w, i32_w]
            rfl
           refine pure_ (i := 15) (N := some 63) (v := ?_) (a' := ?_) #[true, true, true, true, true, true, true, true, true, true, true, true, true, true, true, true, false, false, false, false, false, false, false, false, false, false, false] rfl rfl (any_of HT_.out (by kernel_rfl)) (fun _ _ _ h => h) (Or.inl ⟨by rfl, ?_⟩) ?_ ?_
           rotate_left
           ·intro w'
            go_simp
            with_reducible rfl
           rotate_left
           ·simp only [Act.put, List.setIfInBounds_toArray, List.set_cons_zero, List.set_cons_succ, i64_w, i32_w]
            rfl
           refine pure_ (i := 16) (N := some 64) (v := ?_) (a' := ?_) #[true, true, true, true, true, true, true, true, true, true, true, true, true, true, true, true, true, false, false, false, false, false, false, false, false, false, false] rfl rfl (any_of HT_.out (by kernel_rfl)) (fun _ _ _ h => h) (Or.inl ⟨by rfl, ?_⟩) ?_ ?_
           rotate_left
           ·intro w'
            go_simp
            with_reducible rfl
           rotate_left
           ·simp only [Act.put, List.setIfInBounds_toArray, List.set_cons_zero, List.set_cons_succ, i64_w, i32_w]
            rfl
           refine pure_ (i := 17) (N := some 65) (v := ?_) (a' := ?_) #[true, true, true, true, true, true, true, true, true, true, true, true, true, true, true, true, true, true, false, false, false, false, false, false, false, false, false] rfl rfl (any_of HT_.out (by kernel_rfl)) (fun _ _ _ h => h) (Or.inl ⟨by rfl, ?_⟩) ?_ ?_
           rotate_left
           ·intro w'
            go_simp
            with_reducible rfl
           rotate_left
           ·simp only [Act.put, List.setIfInBounds_toArray, List.set_cons_zero, List.set_cons_succ, i64_w, i32_w]
            rfl
           refine join_ (σ := Value × Value × Nat) 3 #[true, true, true, true, true, true, true, true, true, true, true, true, true, true, true, true, true, true, true, true, true, true, true, true, false, false, false] (fun s_ => [(66, .tuple #[.agg #[s_.1, s_.2.1], .int .i64 t285, .int .i64 t286]), (11, .pointer (some ⟨s_.2.2, 0, none⟩)), (47, .tuple #[.agg #[s_.1, s_.2.1], .int .i64 t285, .int .i64 t286]), (67, .agg #[s_.1, s_.2.1]), (68, .int .i64 t285), (69, .int .i64 t286)]) (fun s_ w' => (w'.cell? ⟨gb276, 0, none⟩ = some (.slice Ao25 x277000_1.length co25) ∧ w'.cell? ⟨gb276, 1, none⟩ = some (.slice Ao26 x277001_1.length co26) ∧ w'.cell? (ad277.add (x10_1).toNat) = some (.int .i64 (rd l2 x10_1)) ∧ w'.cell? (ad277.add (x10_1).toNat) = some (.int .i64 (rd l2 x10_1))) ∧ (Kd.V k43 43 w' w.heap.size (fun k_ => some k_ ≠ (.slice Ao9 t264.length co9 : Value).ownBlock ∧ k_ ≠ gb276 ∧ k_ ≠ s_.2.2) s_.1 t279) ∧ (Kd.V (Kd.int .i64) 2 w' w.heap.size (fun k_ => some k_ ≠ (.slice Ao9 t264.length co9 : Value).ownBlock ∧ k_ ≠ gb276 ∧ k_ ≠ s_.2.2) s_.2.1 t282) ∧ (Kd.V k43 43 w' w.heap.size (fun k_ => some k_ ≠ (.slice Ao9 t264.length co9 : Value).ownBlock ∧ k_ ≠ gb276 ∧ k_ ≠ s_.2.2) (.slice Ao25 x277000_1.length co25) x277000_1) ∧ (Kd.V (Kd.int .i64) 2 w' w.heap.size (fun k_ => some k_ ≠ (.slice Ao9 t264.length co9 : Value).ownBlock ∧ k_ ≠ gb276 ∧ k_ ≠ s_.2.2) (.slice Ao26 x277001_1.length co26) x277001_1) ∧ (Kd.R k68 68 w' w.heap.size (fun _ => True) (.slice Ao9 t264.length co9) t264) ∧ (w'.heap[gb276]? = some (.cells #[.slice Ao25 x277000_1.length co25, .slice Ao26 x277001_1.length co26] 61 (0, 0))) ∧ (w'.heap[s_.2.2]? = some (.cells #[.slice none 0 0, .slice none 0 0] 61 (0, 0))) ∧ (w.heap.size ≤ s_.2.2) ∧ (w.heap.size ≤ s_.2.2) ∧ (gb276 ≠ s_.2.2) ∧ (s_.2.2 ≠ gb276) ∧ (Below w.heap.size w w')) ?_ ?_
           rotate_left
           ·intro hCont
            refine two_ (i := 18) (j := 23) (Ni := some 66) (Nj := some 11) #[true, true, true, true, true, true, true, true, true, true, true, true, true, true, true, true, true, true, true, false, false, false, false, false, false, false, false] #[true, true, true, true, true, true, true, true, true, true, true, true, true, true, true, true, true, true, false, false, false, false, false, true, false, false, false] rfl rfl rfl rfl (two_of HT_.out (by kernel_rfl)) (by decide) (by decide) (fun K hK => ?_) (fun K hK => ?_)
            ·skip
             refine goes_ Try.func48 (by kernel_rfl) rfl #[.agg #[.slice Ao25 x277000_1.length co25, .slice Ao26 x277001_1.length co26], .int .i64 (wrap64 (Int.tmod (IntKind.u64.wrap (rd l2 x10_1)) (IntKind.u64.wrap ((t264.length : Int))))), .int .i64 (wrap64 (Int.tmod (IntKind.u64.wrap (rd l2 x10_1)) 1000))] (by rfl) rfl rfl (by (try simp only [List.map_toArray, List.map_cons, List.map_nil]); first | done | rfl | (simp only [List.length_drop, List.length_take]; rfl)) ?_
             with_reducible refine (credit_Reserve.calls kj16 (fun k_ => (some k_ ≠ (.slice Ao9 t264.length co9 : Value).ownBlock ∧ k_ ≠ gb276)) _ _ x277000_1 (fun k_ => (some k_ ≠ (.slice Ao9 t264.length co9 : Value).ownBlock ∧ k_ ≠ gb276)) _ _ x277001_1 (wrap64 (Int.tmod (IntKind.u64.wrap (rd l2 x10_1)) (IntKind.u64.wrap ((t264.length : Int))))) (wrap64 (Int.tmod (IntKind.u64.wrap (rd l2 x10_1)) 1000)) t279 t282 t285 t286 _ ?side1 ?side2 A23.out).mono ?_
             (case side1 => exact HO_277000.out)
             (case side2 => exact HO_277001.out)
             rintro e w28 ⟨v280, v283, rfl, ho0, ho1, hb⟩
             refine ⟨_, rfl, ?_⟩
             have n0_ := Aside0.mk (Kd.R_below (by (with_reducible repeat (first | apply Kd.R_alloc | apply Kd.R_drewN | apply Kd.R_drew)); exact HO_7.out) hb)
             have n1_ := Aside0.mk (Kd.V_below (by (with_reducible repeat (first | apply Kd.V_alloc | apply Kd.V_drewN | apply Kd.V_drew)); exact HO_277000.out) hb)
             have n2_ := Aside0.mk (Kd.V_below (by (with_reducible repeat (first | apply Kd.V_alloc | apply Kd.V_drewN | apply Kd.V_drew)); exact HO_277001.out) hb)
             have n3_ := Aside0.mk (Kd.V_lower (Kd.V_mono (ok' := fun k_ => some k_ ≠ (.slice Ao9 t264.length co9 : Value).ownBlock ∧ k_ ≠ gb276) ho0 (fun k_ hk_ => ⟨Or.elim hk_ (fun hs_ => Or.elim hs_ (fun hs_ => hs_.1) (fun hs_ => hs_.1)) (fun hn_ => (Kd.fresh' (Kd.R_lt (by (with_reducible repeat (first | apply Kd.R_alloc | apply Kd.R_drewN | apply Kd.R_drew)); exact HO_7.out)) k_ hn_)), Or.elim hk_ (fun hs_ => Or.elim hs_ (fun hs_ => hs_.2) (fun hs_ => hs_.2)) (fun hn_ => (Kd.freshB (g := gb276) (o := .cells #[.slice Ao25 x277000_1.length co25, .slice Ao26 x277001_1.length co26] 61 (0, 0)) (by (with_reducible repeat (first | refine blk_drewN ?_ _ | refine blk_drew ?_ | refine blk_alloc ?_ _)); exact BK276.out) k_ hn_))⟩)) (below_size (by repeat (first | (with_reducible first | exact HB.out | apply below_alloc | apply pw_below_drewN | apply below_drew1 | refine below_set ?_ GE276.out) | exact HB.out))))
             have n4_ := Aside0.mk (Kd.V_lower (Kd.V_mono (ok' := fun k_ => some k_ ≠ (.slice Ao9 t264.length co9 : Value).ownBlock ∧ k_ ≠ gb276) ho1 (fun k_ hk_ => ⟨Or.elim hk_ (fun hs_ => Or.elim hs_ (fun hs_ => hs_.1) (fun hs_ => hs_.1)) (fun hn_ => (Kd.fresh' (Kd.R_lt (by (with_reducible repeat (first | apply Kd.R_alloc | apply Kd.R_drewN | apply Kd.R_drew)); exact HO_7.out)) k_ hn_)), Or.elim hk_ (fun hs_ => Or.elim hs_ (fun hs_ => hs_.2) (fun hs_ => hs_.2)) (fun hn_ => (Kd.freshB (g := gb276) (o := .cells #[.slice Ao25 x277000_1.length co25, .slice Ao26 x277001_1.length co26] 61 (0, 0)) (by (with_reducible repeat (first | refine blk_drewN ?_ _ | refine blk_drew ?_ | refine blk_alloc ?_ _)); exact BK276.out) k_ hn_))⟩)) (below_size (by repeat (first | (with_reducible first | exact HB.out | apply below_alloc | apply pw_below_drewN | apply below_drew1 | refine below_set ?_ GE276.out) | exact HB.out))))
             have n5_ := Aside0.mk (blk_below (g := gb276) (o := .cells #[.slice Ao25 x277000_1.length co25, .slice Ao26 x277001_1.length co26] 61 (0, 0)) (by (with_reducible repeat (first | refine blk_drewN ?_ _ | refine blk_drew ?_ | refine blk_alloc ?_ _)); exact BK276.out) hb)
             have n6_ := Aside0.mk (below_step (by repeat (first | (with_reducible first | exact HB.out | apply below_alloc | apply pw_below_drewN | apply below_drew1 | refine below_set ?_ GE276.out) | exact HB.out)) hb)
             clear HO_7
             clear HO_277000
             clear HO_277001
             clear BK276
             clear HB
             have HO_7 := n0_
             have HO_277000 := n1_
             have HO_277001 := n2_
             have HO281 := n3_
             have HO284 := n4_
             have BK276 := n5_
             have HB := n6_
             clear n0_ n1_ n2_ n3_ n4_ n5_ n6_
             (try clear hb)
             (try clear hb2)
             (try clear hk)
             (try clear hi)
             (try clear ho0)
             (try clear ho1)
             refine hK.out _ _ ⟨(blk_cell BK276.out 0).trans rfl, (blk_cell BK276.out 1).trans rfl, ((HB.out.cell (World.block_lt_of_cell? w _ hw277_0)).trans hw277_0), ((HB.out.cell (World.block_lt_of_cell? w _ hw278_0)).trans hw278_0)⟩ (fun hHeld => ?_)
             clear hK K
             refine norm_ (a' := ?_) ?_ ?_
             rotate_left
             ·show Act.put _ (some 66) _ = _
              simp only [Act.put, List.setIfInBounds_toArray, List.set_cons_zero, List.set_cons_succ, i64_w, i32_w]
              rfl
             refine pure_ (i := 19) (N := some 47) (v := ?_) (a' := ?_) #[true, true, true, true, true, true, true, true, true, true, true, true, true, true, true, true, true, true, true, true, false, false, false, false, false, false, false] rfl rfl (any_of HT_.out (by kernel_rfl)) (fun _ _ _ h => h) (Or.inl ⟨by rfl, ?_⟩) ?_ ?_
             rotate_left
             ·intro w'
              go_simp
              with_reducible rfl
             rotate_left
             ·simp only [Act.put, List.setIfInBounds_toArray, List.set_cons_zero, List.set_cons_succ, i64_w, i32_w]
              rfl
             refine pure_ (i := 20) (N := some 67) (v := ?_) (a' := ?_) #[true, true, true, true, true, true, true, true, true, true, true, true, true, true, true, true, true, true, true, true, true, false, false, false, false, false, false] rfl rfl (any_of HT_.out (by kernel_rfl)) (fun _ _ _ h => h) (Or.inl ⟨by rfl, ?_⟩) ?_ ?_
             rotate_left
             ·intro w'
              go_simp
              with_reducible rfl
             rotate_left
             ·simp only [Act.put, List.setIfInBounds_toArray, List.set_cons_zero, List.set_cons_succ, i64_w, i32_w]
              rfl
             refine pure_ (i := 21) (N := some 68) (v := ?_) (a' := ?_) #[true, true, true, true, true, true, true, true, true, true, true, true, true, true, true, true, true, true, true, true, true, true, false, false, false, false, false] rfl rfl (any_of HT_.out (by kernel_rfl)) (fun _ _ _ h => h) (Or.inl ⟨by rfl, ?_⟩) ?_ ?_
             rotate_left
             ·intro w'
              go_simp
              with_reducible rfl
             rotate_left
             ·simp only [Act.put, List.setIfInBounds_toArray, List.set_cons_zero, List.set_cons_succ, i64_w, i32_w]
              rfl
             refine pure_ (i := 22) (N := some 69) (v := ?_) (a' := ?_) #[true, true, true, true, true, true, true, true, true, true, true, true, true, true, true, true, true, true, true, true, true, true, true, false, false, false, false] rfl rfl (any_of HT_.out (by kernel_rfl)) (fun _ _ _ h => h) (Or.inl ⟨by rfl, ?_⟩) ?_ ?_
             rotate_left
             ·intro w'
              go_simp
              with_reducible rfl
             rotate_left
             ·simp only [Act.put, List.setIfInBounds_toArray, List.set_cons_zero, List.set_cons_succ, i64_w, i32_w]
              rfl
             refine one_ (i := 23) (N := some 11) #[true, true, true, true, true, true, true, true, true, true, true, true, true, true, true, true, true, true, true, true, true, true, true, true, false, false, false] rfl rfl (one_of HT_.out (by kernel_rfl)) (by decide) (fun K hK => ?_)
             refine box_step ?hg (N := 11) ?hd (cs := #[.slice none 0 0, .slice none 0 0]) (t := 61) ?hr ?_; (case hd => rfl); (case hg => rfl); (case hr => first | (go_simp; done) | (go_simp; rfl))
             intro gb287 hg w29 hbox hb
             have n0_ := Aside0.mk (Kd.R_below (by (with_reducible repeat (first | apply Kd.R_alloc | apply Kd.R_drewN | apply Kd.R_drew)); exact HO_7.out) hb)
             have n1_ := Aside0.mk (Kd.V_below (Kd.V_elderB (by (with_reducible repeat (first | apply Kd.V_alloc | apply Kd.V_drewN | apply Kd.V_drew)); exact HO_277000.out) gb287 (Nat.le_of_eq hg.symm)) hb)
             have n2_ := Aside0.mk (Kd.V_below (Kd.V_elderB (by (with_reducible repeat (first | apply Kd.V_alloc | apply Kd.V_drewN | apply Kd.V_drew)); exact HO_277001.out) gb287 (Nat.le_of_eq hg.symm)) hb)
             have n3_ := Aside0.mk (Kd.V_below (Kd.V_elderB (by (with_reducible repeat (first | apply Kd.V_alloc | apply Kd.V_drewN | apply Kd.V_drew)); exact HO281.out) gb287 (Nat.le_of_eq hg.symm)) hb)
             have n4_ := Aside0.mk (Kd.V_below (Kd.V_elderB (by (with_reducible repeat (first | apply Kd.V_alloc | apply Kd.V_drewN | apply Kd.V_drew)); exact HO284.out) gb287 (Nat.le_of_eq hg.symm)) hb)
             have n5_ := Aside0.mk (blk_below (g := gb276) (o := .cells #[.slice Ao25 x277000_1.length co25, .slice Ao26 x277001_1.length co26] 61 (0, 0)) (by (with_reducible repeat (first | refine blk_drewN ?_ _ | refine blk_drew ?_ | refine blk_alloc ?_ _)); exact BK276.out) hb)
             have n6_ := Aside0.mk (below_step (by repeat (first | (with_reducible first | exact HB.out | apply below_alloc | apply pw_below_drewN | apply below_drew1 | refine below_set ?_ GE276.out) | exact HB.out)) hb)
             have n7_ := Aside0.mk (hbox)
             have n8_ := Aside0.mk ((by rw [hg]; exact (below_size (by repeat (first | (with_reducible first | exact HB.out | apply below_alloc | apply pw_below_drewN | apply below_drew1 | refine below_set ?_ GE276.out) | exact HB.out))) : w.heap.size ≤ gb287))
             have n9_ := Aside0.mk ((by rw [hg]; exact (below_size (by repeat (first | (with_reducible first | exact HB.out | apply below_alloc | apply pw_below_drewN | apply below_drew1 | refine below_set ?_ GE276.out) | exact HB.out))) : w.heap.size ≤ gb287))
             have n10_ := Aside0.mk ((by rw [hg]; exact Nat.ne_of_lt (blk_lt (g := gb276) (o := .cells #[.slice Ao25 x277000_1.length co25, .slice Ao26 x277001_1.length co26] 61 (0, 0)) (by (with_reducible repeat (first | refine blk_drewN ?_ _ | refine blk_drew ?_ | refine blk_alloc ?_ _)); exact BK276.out)) : gb276 ≠ gb287))
             have n11_ := Aside0.mk ((by rw [hg]; exact Nat.ne_of_gt (blk_lt (g := gb276) (o := .cells #[.slice Ao25 x277000_1.length co25, .slice Ao26 x277001_1.length co26] 61 (0, 0)) (by (with_reducible repeat (first | refine blk_drewN ?_ _ | refine blk_drew ?_ | refine blk_alloc ?_ _)); exact BK276.out)) : gb287 ≠ gb276))
             clear HO_7
             clear HO_277000
             clear HO_277001
             clear HO281
             clear HO284
             clear BK276
             clear HB
             have HO_7 := n0_
             have HO_277000 := n1_
             have HO_277001 := n2_
             have HO281 := n3_
             have HO284 := n4_
             have BK276 := n5_
             have HB := n6_
             have BK287 := n7_
             have GW287 := n8_
             have GE287 := n9_
             have NB276_287 := n10_
             have NB287_276 := n11_
             clear n0_ n1_ n2_ n3_ n4_ n5_ n6_ n7_ n8_ n9_ n10_ n11_
             clear hb hbox hg
             refine hK.out _ _ ⟨(blk_cell BK276.out 0).trans rfl, (blk_cell BK276.out 1).trans rfl, ((HB.out.cell (World.block_lt_of_cell? w _ hw277_0)).trans hw277_0), ((HB.out.cell (World.block_lt_of_cell? w _ hw278_0)).trans hw278_0)⟩ (fun hHeld => ?_)
             clear hK K
             refine norm_ (a' := ?_) ?_ ?_
             rotate_left
             ·show Act.put _ (some 11) _ = _
              simp only [Act.put, List.setIfInBounds_toArray, List.set_cons_zero, List.set_cons_succ, i64_w, i32_w]
              rfl
             exact norm_ (by simp only [putAll, Act.put, List.setIfInBounds_toArray, List.set_cons_zero, List.set_cons_succ]) (hCont (v280, v283, gb287) _ ⟨hHeld, (by (with_reducible repeat (first | apply Kd.V_alloc | apply Kd.V_drewN | apply Kd.V_drew)); exact Kd.V_mono HO281.out (fun _ hk => ⟨hk.1.1, ⟨hk.1.2, hk.2⟩⟩)), (by (with_reducible repeat (first | apply Kd.V_alloc | apply Kd.V_drewN | apply Kd.V_drew)); exact Kd.V_mono HO284.out (fun _ hk => ⟨hk.1.1, ⟨hk.1.2, hk.2⟩⟩)), (by (with_reducible repeat (first | apply Kd.V_alloc | apply Kd.V_drewN | apply Kd.V_drew)); exact Kd.V_mono HO_277000.out (fun _ hk => ⟨hk.1.1, ⟨hk.1.2, hk.2⟩⟩)), (by (with_reducible repeat (first | apply Kd.V_alloc | apply Kd.V_drewN | apply Kd.V_drew)); exact Kd.V_mono HO_277001.out (fun _ hk => ⟨hk.1.1, ⟨hk.1.2, hk.2⟩⟩)), (by (with_reducible repeat (first | apply Kd.R_alloc | apply Kd.R_drewN | apply Kd.R_drew)); exact HO_7.out), (by (with_reducible repeat (first | refine blk_drewN ?_ _ | refine blk_drew ?_ | refine blk_alloc ?_ _)); exact BK276.out), (by (with_reducible repeat (first | refine blk_drewN ?_ _ | refine blk_drew ?_ | refine blk_alloc ?_ _)); exact BK287.out), GW287.out, GE287.out, NB276_287.out, NB287_276.out, (by repeat (first | (with_reducible first | exact HB.out | apply below_alloc | apply pw_below_drewN | apply below_drew1 | refine below_set ?_ GE276.out | refine below_set ?_ GE287.out) | exact HB.out))⟩)
            ·skip
             refine box_step ?hg (N := 11) ?hd (cs := #[.slice none 0 0, .slice none 0 0]) (t := 61) ?hr ?_; (case hd => rfl); (case hg => rfl); (case hr => first | (go_simp; done) | (go_simp; rfl))
             intro gb287 hg w28 hbox hb
             have n0_ := Aside0.mk (Kd.R_below (by (with_reducible repeat (first | apply Kd.R_alloc | apply Kd.R_drewN | apply Kd.R_drew)); exact HO_7.out) hb)
             have n1_ := Aside0.mk (Kd.V_below (Kd.V_elderB (by (with_reducible repeat (first | apply Kd.V_alloc | apply Kd.V_drewN | apply Kd.V_drew)); exact HO_277000.out) gb287 (Nat.le_of_eq hg.symm)) hb)
             have n2_ := Aside0.mk (Kd.V_below (Kd.V_elderB (by (with_reducible repeat (first | apply Kd.V_alloc | apply Kd.V_drewN | apply Kd.V_drew)); exact HO_277001.out) gb287 (Nat.le_of_eq hg.symm)) hb)
             have n3_ := Aside0.mk (blk_below (g := gb276) (o := .cells #[.slice Ao25 x277000_1.length co25, .slice Ao26 x277001_1.length co26] 61 (0, 0)) (by (with_reducible repeat (first | refine blk_drewN ?_ _ | refine blk_drew ?_ | refine blk_alloc ?_ _)); exact BK276.out) hb)
             have n4_ := Aside0.mk (below_step (by repeat (first | (with_reducible first | exact HB.out | apply below_alloc | apply pw_below_drewN | apply below_drew1 | refine below_set ?_ GE276.out) | exact HB.out)) hb)
             have n5_ := Aside0.mk (hbox)
             have n6_ := Aside0.mk ((by rw [hg]; exact (below_size (by repeat (first | (with_reducible first | exact HB.out | apply below_alloc | apply pw_below_drewN | apply below_drew1 | refine below_set ?_ GE276.out) | exact HB.out))) : w.heap.size ≤ gb287))
             have n7_ := Aside0.mk ((by rw [hg]; exact (below_size (by repeat (first | (with_reducible first | exact HB.out | apply below_alloc | apply pw_below_drewN | apply below_drew1 | refine below_set ?_ GE276.out) | exact HB.out))) : w.heap.size ≤ gb287))
             have n8_ := Aside0.mk ((by rw [hg]; exact Nat.ne_of_lt (blk_lt (g := gb276) (o := .cells #[.slice Ao25 x277000_1.length co25, .slice Ao26 x277001_1.length co26] 61 (0, 0)) (by (with_reducible repeat (first | refine blk_drewN ?_ _ | refine blk_drew ?_ | refine blk_alloc ?_ _)); exact BK276.out)) : gb276 ≠ gb287))
             have n9_ := Aside0.mk ((by rw [hg]; exact Nat.ne_of_gt (blk_lt (g := gb276) (o := .cells #[.slice Ao25 x277000_1.length co25, .slice Ao26 x277001_1.length co26] 61 (0, 0)) (by (with_reducible repeat (first | refine blk_drewN ?_ _ | refine blk_drew ?_ | refine blk_alloc ?_ _)); exact BK276.out)) : gb287 ≠ gb276))
             clear HO_7
             clear HO_277000
             clear HO_277001
             clear BK276
             clear HB
             have HO_7 := n0_
             have HO_277000 := n1_
             have HO_277001 := n2_
             have BK276 := n3_
             have HB := n4_
             have BK287 := n5_
             have GW287 := n6_
             have GE287 := n7_
             have NB276_287 := n8_
             have NB287_276 := n9_
             clear n0_ n1_ n2_ n3_ n4_ n5_ n6_ n7_ n8_ n9_
             clear hb hbox hg
             refine hK.out _ _ ⟨(blk_cell BK276.out 0).trans rfl, (blk_cell BK276.out 1).trans rfl, ((HB.out.cell (World.block_lt_of_cell? w _ hw277_0)).trans hw277_0), ((HB.out.cell (World.block_lt_of_cell? w _ hw278_0)).trans hw278_0)⟩ (fun hHeld => ?_)
             clear hK K
             refine norm_ (a' := ?_) ?_ ?_
             rotate_left
             ·show Act.put _ (some 11) _ = _
              simp only [Act.put, List.setIfInBounds_toArray, List.set_cons_zero, List.set_cons_succ, i64_w, i32_w]
              rfl
             refine one_ (i := 18) (N := some 66) #[true, true, true, true, true, true, true, true, true, true, true, true, true, true, true, true, true, true, true, false, false, false, false, true, false, false, false] rfl rfl (one_of HT_.out (by kernel_rfl)) (by decide) (fun K hK => ?_)
             refine goes_ Try.func48 (by kernel_rfl) rfl #[.agg #[.slice Ao25 x277000_1.length co25, .slice Ao26 x277001_1.length co26], .int .i64 (wrap64 (Int.tmod (IntKind.u64.wrap (rd l2 x10_1)) (IntKind.u64.wrap ((t264.length : Int))))), .int .i64 (wrap64 (Int.tmod (IntKind.u64.wrap (rd l2 x10_1)) 1000))] (by rfl) rfl rfl (by (try simp only [List.map_toArray, List.map_cons, List.map_nil]); first | done | rfl | (simp only [List.length_drop, List.length_take]; rfl)) ?_
             with_reducible refine (credit_Reserve.calls kj16 (fun k_ => ((some k_ ≠ (.slice Ao9 t264.length co9 : Value).ownBlock ∧ k_ ≠ gb276) ∧ k_ ≠ gb287)) _ _ x277000_1 (fun k_ => ((some k_ ≠ (.slice Ao9 t264.length co9 : Value).ownBlock ∧ k_ ≠ gb276) ∧ k_ ≠ gb287)) _ _ x277001_1 (wrap64 (Int.tmod (IntKind.u64.wrap (rd l2 x10_1)) (IntKind.u64.wrap ((t264.length : Int))))) (wrap64 (Int.tmod (IntKind.u64.wrap (rd l2 x10_1)) 1000)) t279 t282 t285 t286 _ ?side1 ?side2 A23.out).mono ?_
             (case side1 => exact HO_277000.out)
             (case side2 => exact HO_277001.out)
             rintro e w29 ⟨v280, v283, rfl, ho0, ho1, hb⟩
             refine ⟨_, rfl, ?_⟩
             have n0_ := Aside0.mk (Kd.R_below (by (with_reducible repeat (first | apply Kd.R_alloc | apply Kd.R_drewN | apply Kd.R_drew)); exact HO_7.out) hb)
             have n1_ := Aside0.mk (Kd.V_below (by (with_reducible repeat (first | apply Kd.V_alloc | apply Kd.V_drewN | apply Kd.V_drew)); exact HO_277000.out) hb)
             have n2_ := Aside0.mk (Kd.V_below (by (with_reducible repeat (first | apply Kd.V_alloc | apply Kd.V_drewN | apply Kd.V_drew)); exact HO_277001.out) hb)
             have n3_ := Aside0.mk (Kd.V_lower (Kd.V_mono (ok' := fun k_ => some k_ ≠ (.slice Ao9 t264.length co9 : Value).ownBlock ∧ k_ ≠ gb276 ∧ k_ ≠ gb287) ho0 (fun k_ hk_ => ⟨Or.elim hk_ (fun hs_ => Or.elim hs_ (fun hs_ => hs_.1.1) (fun hs_ => hs_.1.1)) (fun hn_ => (Kd.fresh' (Kd.R_lt (by (with_reducible repeat (first | apply Kd.R_alloc | apply Kd.R_drewN | apply Kd.R_drew)); exact HO_7.out)) k_ hn_)), Or.elim hk_ (fun hs_ => Or.elim hs_ (fun hs_ => hs_.1.2) (fun hs_ => hs_.1.2)) (fun hn_ => (Kd.freshB (g := gb276) (o := .cells #[.slice Ao25 x277000_1.length co25, .slice Ao26 x277001_1.length co26] 61 (0, 0)) (by (with_reducible repeat (first | refine blk_drewN ?_ _ | refine blk_drew ?_ | refine blk_alloc ?_ _)); exact BK276.out) k_ hn_)), Or.elim hk_ (fun hs_ => Or.elim hs_ (fun hs_ => hs_.2) (fun hs_ => hs_.2)) (fun hn_ => (Kd.freshB (g := gb287) (o := .cells #[.slice none 0 0, .slice none 0 0] 61 (0, 0)) (by (with_reducible repeat (first | refine blk_drewN ?_ _ | refine blk_drew ?_ | refine blk_alloc ?_ _)); exact BK287.out) k_ hn_))⟩)) (below_size (by repeat (first | (with_reducible first | exact HB.out | apply below_alloc | apply pw_below_drewN | apply below_drew1 | refine below_set ?_ GE276.out | refine below_set ?_ GE287.out) | exact HB.out))))
             have n4_ := Aside0.mk (Kd.V_lower (Kd.V_mono (ok' := fun k_ => some k_ ≠ (.slice Ao9 t264.length co9 : Value).ownBlock ∧ k_ ≠ gb276 ∧ k_ ≠ gb287) ho1 (fun k_ hk_ => ⟨Or.elim hk_ (fun hs_ => Or.elim hs_ (fun hs_ => hs_.1.1) (fun hs_ => hs_.1.1)) (fun hn_ => (Kd.fresh' (Kd.R_lt (by (with_reducible repeat (first | apply Kd.R_alloc | apply Kd.R_drewN | apply Kd.R_drew)); exact HO_7.out)) k_ hn_)), Or.elim hk_ (fun hs_ => Or.elim hs_ (fun hs_ => hs_.1.2) (fun hs_ => hs_.1.2)) (fun hn_ => (Kd.freshB (g := gb276) (o := .cells #[.slice Ao25 x277000_1.length co25, .slice Ao26 x277001_1.length co26] 61 (0, 0)) (by (with_reducible repeat (first | refine blk_drewN ?_ _ | refine blk_drew ?_ | refine blk_alloc ?_ _)); exact BK276.out) k_ hn_)), Or.elim hk_ (fun hs_ => Or.elim hs_ (fun hs_ => hs_.2) (fun hs_ => hs_.2)) (fun hn_ => (Kd.freshB (g := gb287) (o := .cells #[.slice none 0 0, .slice none 0 0] 61 (0, 0)) (by (with_reducible repeat (first | refine blk_drewN ?_ _ | refine blk_drew ?_ | refine blk_alloc ?_ _)); exact BK287.out) k_ hn_))⟩)) (below_size (by repeat (first | (with_reducible first | exact HB.out | apply below_alloc | apply pw_below_drewN | apply below_drew1 | refine below_set ?_ GE276.out | refine below_set ?_ GE287.out) | exact HB.out))))
             have n5_ := Aside0.mk (blk_below (g := gb276) (o := .cells #[.slice Ao25 x277000_1.length co25, .slice Ao26 x277001_1.length co26] 61 (0, 0)) (by (with_reducible repeat (first | refine blk_drewN ?_ _ | refine blk_drew ?_ | refine blk_alloc ?_ _)); exact BK276.out) hb)
             have n6_ := Aside0.mk (blk_below (g := gb287) (o := .cells #[.slice none 0 0, .slice none 0 0] 61 (0, 0)) (by (with_reducible repeat (first | refine blk_drewN ?_ _ | refine blk_drew ?_ | refine blk_alloc ?_ _)); exact BK287.out) hb)
             have n7_ := Aside0.mk (below_step (by repeat (first | (with_reducible first | exact HB.out | apply below_alloc | apply pw_below_drewN | apply below_drew1 | refine below_set ?_ GE276.out | refine below_set ?_ GE287.out) | exact HB.out)) hb)
             clear HO_7
             clear HO_277000
             clear HO_277001
             clear BK276
             clear BK287
             clear HB
             have HO_7 := n0_
             have HO_277000 := n1_
             have HO_277001 := n2_
             have HO281 := n3_
             have HO284 := n4_
             have BK276 := n5_
             have BK287 := n6_
             have HB := n7_
             clear n0_ n1_ n2_ n3_ n4_ n5_ n6_ n7_
             (try clear hb)
             (try clear hb2)
             (try clear hk)
             (try clear hi)
             (try clear ho0)
             (try clear ho1)
             refine hK.out _ _ ⟨(blk_cell BK276.out 0).trans rfl, (blk_cell BK276.out 1).trans rfl, ((HB.out.cell (World.block_lt_of_cell? w _ hw277_0)).trans hw277_0), ((HB.out.cell (World.block_lt_of_cell? w _ hw278_0)).trans hw278_0)⟩ (fun hHeld => ?_)
             clear hK K
             refine norm_ (a' := ?_) ?_ ?_
             rotate_left
             ·show Act.put _ (some 66) _ = _
              simp only [Act.put, List.setIfInBounds_toArray, List.set_cons_zero, List.set_cons_succ, i64_w, i32_w]
              rfl
             refine pure_ (i := 19) (N := some 47) (v := ?_) (a' := ?_) #[true, true, true, true, true, true, true, true, true, true, true, true, true, true, true, true, true, true, true, true, false, false, false, true, false, false, false] rfl rfl (any_of HT_.out (by kernel_rfl)) (fun _ _ _ h => h) (Or.inl ⟨by rfl, ?_⟩) ?_ ?_
             rotate_left
             ·intro w'
              go_simp
              with_reducible rfl
             rotate_left
             ·simp only [Act.put, List.setIfInBounds_toArray, List.set_cons_zero, List.set_cons_succ, i64_w, i32_w]
              rfl
             refine pure_ (i := 20) (N := some 67) (v := ?_) (a' := ?_) #[true, true, true, true, true, true, true, true, true, true, true, true, true, true, true, true, true, true, true, true, true, false, false, true, false, false, false] rfl rfl (any_of HT_.out (by kernel_rfl)) (fun _ _ _ h => h) (Or.inl ⟨by rfl, ?_⟩) ?_ ?_
             rotate_left
             ·intro w'
              go_simp
              with_reducible rfl
             rotate_left
             ·simp only [Act.put, List.setIfInBounds_toArray, List.set_cons_zero, List.set_cons_succ, i64_w, i32_w]
              rfl
             refine pure_ (i := 21) (N := some 68) (v := ?_) (a' := ?_) #[true, true, true, true, true, true, true, true, true, true, true, true, true, true, true, true, true, true, true, true, true, true, false, true, false, false, false] rfl rfl (any_of HT_.out (by kernel_rfl)) (fun _ _ _ h => h) (Or.inl ⟨by rfl, ?_⟩) ?_ ?_
             rotate_left
             ·intro w'
              go_simp
              with_reducible rfl
             rotate_left
             ·simp only [Act.put, List.setIfInBounds_toArray, List.set_cons_zero, List.set_cons_succ, i64_w, i32_w]
              rfl
             refine pure_ (i := 22) (N := some 69) (v := ?_) (a' := ?_) #[true, true, true, true, true, true, true, true, true, true, true, true, true, true, true, true, true, true, true, true, true, true, true, true, false, false, false] rfl rfl (any_of HT_.out (by kernel_rfl)) (fun _ _ _ h => h) (Or.inl ⟨by rfl, ?_⟩) ?_ ?_
             rotate_left
             ·intro w'
              go_simp
              with_reducible rfl
             rotate_left
             ·simp only [Act.put, List.setIfInBounds_toArray, List.set_cons_zero, List.set_cons_succ, i64_w, i32_w]
              rfl
             exact norm_ (by simp only [putAll, Act.put, List.setIfInBounds_toArray, List.set_cons_zero, List.set_cons_succ]) (hCont (v280, v283, gb287) _ ⟨hHeld, (by (with_reducible repeat (first | apply Kd.V_alloc | apply Kd.V_drewN | apply Kd.V_drew)); exact HO281.out), (by (with_reducible repeat (first | apply Kd.V_alloc | apply Kd.V_drewN | apply Kd.V_drew)); exact HO284.out), (by (with_reducible repeat (first | apply Kd.V_alloc | apply Kd.V_drewN | apply Kd.V_drew)); exact Kd.V_mono HO_277000.out (fun _ hk => ⟨hk.1.1, ⟨hk.1.2, hk.2⟩⟩)), (by (with_reducible repeat (first | apply Kd.V_alloc | apply Kd.V_drewN | apply Kd.V_drew)); exact Kd.V_mono HO_277001.out (fun _ hk => ⟨hk.1.1, ⟨hk.1.2, hk.2⟩⟩)), (by (with_reducible repeat (first | apply Kd.R_alloc | apply Kd.R_drewN | apply Kd.R_drew)); exact HO_7.out), (by (with_reducible repeat (first | refine blk_drewN ?_ _ | refine blk_drew ?_ | refine blk_alloc ?_ _)); exact BK276.out), (by (with_reducible repeat (first | refine blk_drewN ?_ _ | refine blk_drew ?_ | refine blk_alloc ?_ _)); exact BK287.out), GW287.out, GE287.out, NB276_287.out, NB287_276.out, (by repeat (first | (with_reducible first | exact HB.out | apply below_alloc | apply pw_below_drewN | apply below_drew1 | refine below_set ?_ GE276.out | refine below_set ?_ GE287.out) | exact HB.out))⟩)
           rintro ⟨v280, v283, gb287⟩ w30 ⟨hS_, h0_, h1_, h2_, h3_, h4_, h5_, h6_, h7_, h8_, h9_, h10_, h11_⟩
           have n0_ : Aside0 (Kd.V k43 43 w30 w.heap.size (fun k_ => some k_ ≠ (.slice Ao9 t264.length co9 : Value).ownBlock ∧ k_ ≠ gb276 ∧ k_ ≠ gb287) v280 t279) := ⟨h0_⟩
           have n1_ : Aside0 (Kd.V (Kd.int .i64) 2 w30 w.heap.size (fun k_ => some k_ ≠ (.slice Ao9 t264.length co9 : Value).ownBlock ∧ k_ ≠ gb276 ∧ k_ ≠ gb287) v283 t282) := ⟨h1_⟩
           have n2_ : Aside0 (Kd.V k43 43 w30 w.heap.size (fun k_ => some k_ ≠ (.slice Ao9 t264.length co9 : Value).ownBlock ∧ k_ ≠ gb276 ∧ k_ ≠ gb287) (.slice Ao25 x277000_1.length co25) x277000_1) := ⟨h2_⟩
           have n3_ : Aside0 (Kd.V (Kd.int .i64) 2 w30 w.heap.size (fun k_ => some k_ ≠ (.slice Ao9 t264.length co9 : Value).ownBlock ∧ k_ ≠ gb276 ∧ k_ ≠ gb287) (.slice Ao26 x277001_1.length co26) x277001_1) := ⟨h3_⟩
           have n4_ : Aside0 (Kd.R k68 68 w30 w.heap.size (fun _ => True) (.slice Ao9 t264.length co9) t264) := ⟨h4_⟩
           have n5_ : Aside0 (w30.heap[gb276]? = some (.cells #[.slice Ao25 x277000_1.length co25, .slice Ao26 x277001_1.length co26] 61 (0, 0))) := ⟨h5_⟩
           have n6_ : Aside0 (w30.heap[gb287]? = some (.cells #[.slice none 0 0, .slice none 0 0] 61 (0, 0))) := ⟨h6_⟩
           have n7_ : Aside0 (w.heap.size ≤ gb287) := ⟨h7_⟩
           have n8_ : Aside0 (w.heap.size ≤ gb287) := ⟨h8_⟩
           have n9_ : Aside0 (gb276 ≠ gb287) := ⟨h9_⟩
           have n10_ : Aside0 (gb287 ≠ gb276) := ⟨h10_⟩
           have n11_ : Aside0 (Below w.heap.size w w30) := ⟨h11_⟩
           clear HO_7
           clear HO_277000
           clear HO_277001
           clear BK276
           clear HB
           clear h0_ h1_ h2_ h3_ h4_ h5_ h6_ h7_ h8_ h9_ h10_ h11_
           have HO281 := n0_
           have HO284 := n1_
           have HO_277000 := n2_
           have HO_277001 := n3_
           have HO_7 := n4_
           have BK276 := n5_
           have BK287 := n6_
           have GW287 := n7_
           have GE287 := n8_
           have NB276_287 := n9_
           have NB287_276 := n10_
           have HB := n11_
           clear n0_ n1_ n2_ n3_ n4_ n5_ n6_ n7_ n8_ n9_ n10_ n11_
           have hHeld : w30.cell? ⟨gb276, 0, none⟩ = some (.slice Ao25 x277000_1.length co25) ∧ w30.cell? ⟨gb276, 1, none⟩ = some (.slice Ao26 x277001_1.length co26) ∧ w30.cell? (ad277.add (x10_1).toNat) = some (.int .i64 (rd l2 x10_1)) ∧ w30.cell? (ad277.add (x10_1).toNat) = some (.int .i64 (rd l2 x10_1)) := hS_
           obtain ⟨Ao31, co31, eo31⟩ := Kd.V_slice HO281.out
           (first | subst eo31 | (injection eo31 with f1_ f2_ f3_; have f4_ := f1_.symm; have f5_ := f3_.symm; clear f1_ f2_ f3_; subst f4_; subst f5_))
           obtain ⟨Ao33, co33, eo33⟩ := Kd.V_slice HO284.out
           (first | subst eo33 | (injection eo33 with f1_ f2_ f3_; have f4_ := f1_.symm; have f5_ := f3_.symm; clear f1_ f2_ f3_; subst f4_; subst f5_))
           refine norm_ (a' := ?_) ?_ ?_
           rotate_left
           ·simp only [putAll, Act.put, List.setIfInBounds_toArray, List.set_cons_zero, List.set_cons_succ]
            rfl
           refine one_ (i := 24) (N := none) #[true, true, true, true, true, true, true, true, true, true, true, true, true, true, true, true, true, true, true, true, true, true, true, true, true, false, false] rfl rfl (one_of HT_.out (by kernel_rfl)) (by decide) (fun K hK => ?_)
           have hs32 : w30.cell? ⟨gb287, 0, none⟩ = some (.slice none 0 0) := (blk_cell BK287.out 0).trans rfl
           have hfs32 := blk_frozen BK287.out 0
           have hns32_0 := NB276_287.out
           have hms32_0 := NB287_276.out
           have hs34 : w30.cell? ⟨gb287, 1, none⟩ = some (.slice none 0 0) := (blk_cell BK287.out 1).trans rfl
           have hfs34 := blk_frozen BK287.out 1
           have hns34_0 := NB276_287.out
           have hms34_0 := NB287_276.out
           refine skip_ (w1 := ?_) (by rfl) rfl ?_ ?_
           rotate_left
           ·go_simp
            rfl
           refine hK.out _ _ ⟨((cell_far (p := ⟨gb287, _, none⟩) NB276_287.out _).trans (((cell_far (p := ⟨gb287, _, none⟩) NB276_287.out _).trans (hHeld.1)))), ((cell_far (p := ⟨gb287, _, none⟩) NB276_287.out _).trans (((cell_far (p := ⟨gb287, _, none⟩) NB276_287.out _).trans (hHeld.2.1)))), ((cell_far (p := ⟨gb287, _, none⟩) (by first | exact Nat.ne_of_lt (Nat.lt_of_lt_of_le (by have := World.block_lt_of_cell? _ _ hw277_0; first | rwa [add_block] at this | exact this) GW287.out) | (rw [add_block]; exact Nat.ne_of_lt (Nat.lt_of_lt_of_le (by have := World.block_lt_of_cell? _ _ hw277_0; first | rwa [add_block] at this | exact this) GW287.out)) | (show (Addr.add _ _).block ≠ _; rw [add_block]; exact Nat.ne_of_lt (Nat.lt_of_lt_of_le (by have := World.block_lt_of_cell? _ _ hw277_0; first | rwa [add_block] at this | exact this) GW287.out)) | (dsimp only; exact Nat.ne_of_lt (Nat.lt_of_lt_of_le (by have := World.block_lt_of_cell? _ _ hw277_0; first | rwa [add_block] at this | exact this) GW287.out))) _).trans (((cell_far (p := ⟨gb287, _, none⟩) (by first | exact Nat.ne_of_lt (Nat.lt_of_lt_of_le (by have := World.block_lt_of_cell? _ _ hw277_0; first | rwa [add_block] at this | exact this) GW287.out) | (rw [add_block]; exact Nat.ne_of_lt (Nat.lt_of_lt_of_le (by have := World.block_lt_of_cell? _ _ hw277_0; first | rwa [add_block] at this | exact this) GW287.out)) | (show (Addr.add _ _).block ≠ _; rw [add_block]; exact Nat.ne_of_lt (Nat.lt_of_lt_of_le (by have := World.block_lt_of_cell? _ _ hw277_0; first | rwa [add_block] at this | exact this) GW287.out)) | (dsimp only; exact Nat.ne_of_lt (Nat.lt_of_lt_of_le (by have := World.block_lt_of_cell? _ _ hw277_0; first | rwa [add_block] at this | exact this) GW287.out))) _).trans (hHeld.2.2.1)))), ((cell_far (p := ⟨gb287, _, none⟩) (by first | exact Nat.ne_of_lt (Nat.lt_of_lt_of_le (by have := World.block_lt_of_cell? _ _ hw278_0; first | rwa [add_block] at this | exact this) GW287.out) | (rw [add_block]; exact Nat.ne_of_lt (Nat.lt_of_lt_of_le (by have := World.block_lt_of_cell? _ _ hw278_0; first | rwa [add_block] at this | exact this) GW287.out)) | (show (Addr.add _ _).block ≠ _; rw [add_block]; exact Nat.ne_of_lt (Nat.lt_of_lt_of_le (by have := World.block_lt_of_cell? _ _ hw278_0; first | rwa [add_block] at this | exact this) GW287.out)) | (dsimp only; exact Nat.ne_of_lt (Nat.lt_of_lt_of_le (by have := World.block_lt_of_cell? _ _ hw278_0; first | rwa [add_block] at this | exact this) GW287.out))) _).trans (((cell_far (p := ⟨gb287, _, none⟩) (by first | exact Nat.ne_of_lt (Nat.lt_of_lt_of_le (by have := World.block_lt_of_cell? _ _ hw278_0; first | rwa [add_block] at this | exact this) GW287.out) | (rw [add_block]; exact Nat.ne_of_lt (Nat.lt_of_lt_of_le (by have := World.block_lt_of_cell? _ _ hw278_0; first | rwa [add_block] at this | exact this) GW287.out)) | (show (Addr.add _ _).block ≠ _; rw [add_block]; exact Nat.ne_of_lt (Nat.lt_of_lt_of_le (by have := World.block_lt_of_cell? _ _ hw278_0; first | rwa [add_block] at this | exact this) GW287.out)) | (dsimp only; exact Nat.ne_of_lt (Nat.lt_of_lt_of_le (by have := World.block_lt_of_cell? _ _ hw278_0; first | rwa [add_block] at this | exact this) GW287.out))) _).trans (hHeld.2.2.2))))⟩ (fun hHeld => ?_)
           clear hK K
           refine pure_ (i := 25) (N := some 12) (v := ?_) (a' := ?_) #[true, true, true, true, true, true, true, true, true, true, true, true, true, true, true, true, true, true, true, true, true, true, true, true, true, true, false] rfl rfl (any_of HT_.out (by kernel_rfl)) (fun _ _ _ h => h) (Or.inl ⟨by rfl, ?_⟩) ?_ ?_
           rotate_left
           ·intro w'
            go_simp
            with_reducible rfl
           rotate_left
           ·simp only [Act.put, List.setIfInBounds_toArray, List.set_cons_zero, List.set_cons_succ, i64_w, i32_w]
            rfl
           refine pure_ (i := 26) (N := some 13) (v := ?_) (a' := ?_) #[true, true, true, true, true, true, true, true, true, true, true, true, true, true, true, true, true, true, true, true, true, true, true, true, true, true, true] rfl rfl (any_of HT_.out (by kernel_rfl)) (fun _ _ _ h => h) (Or.inl ⟨by rfl, ?_⟩) ?_ ?_
           rotate_left
           ·intro w'
            go_simp
            with_reducible rfl
           rotate_left
           ·simp only [Act.put, List.setIfInBounds_toArray, List.set_cons_zero, List.set_cons_succ, i64_w, i32_w]
            rfl
           refine done_ (done_of HT_.out (by kernel_rfl)) ?_
           have hnb35 := NB287_276.out
           have hnc35 := NB276_287.out
           have hcz36_0 : w30.cell? ⟨gb287, 0, none⟩ = some (.slice none 0 0) := (blk_cell BK287.out 0).trans rfl
           have hcz36_1 : w30.cell? ⟨gb287, 1, none⟩ = some (.slice none 0 0) := (blk_cell BK287.out 1).trans rfl
           have hfz36_0 := blk_frozen BK287.out 0
           have hfz36_1 := blk_frozen BK287.out 1
           have hcz37_0 : w30.cell? ⟨gb276, 0, none⟩ = some (.slice Ao25 x277000_1.length co25) := (blk_cell BK276.out 0).trans rfl
           have hcz37_1 : w30.cell? ⟨gb276, 1, none⟩ = some (.slice Ao26 x277001_1.length co26) := (blk_cell BK276.out 1).trans rfl
           have hfz37_0 := blk_frozen BK276.out 0
           have hfz37_1 := blk_frozen BK276.out 1
           try go_wp2
           go_roundg kj16
           case measure => have := HK1.out; have := HJ16.out; omega
           case rel => exact ⟨(wrap64 (x10_1 + 1)), (t279), (t282), (.slice Ao31 t279.length co31), (.slice Ao33 t282.length co33), (by first | rfl | (simp; done) | (simp [*]; done)), H', ⟨by have := HK1.out; have := HJ16.out; omega⟩, ⟨by (with_reducible repeat (first | apply Kd.R_alloc | apply Kd.R_drewN | apply Kd.R_drew)); exact Kd.R_mono (Kd.R_far (p := ⟨gb276, 1, none⟩) (Kd.R_far (p := ⟨gb276, 0, none⟩) (Kd.R_far (p := ⟨gb287, 1, none⟩) (Kd.R_far (p := ⟨gb287, 0, none⟩) (Kd.R_types (Kd.R_types HO_7.out BK287.out (by decide)) BK276.out (by decide)) (fun _ hk => hk.1.2) (.slice Ao31 t279.length co31)) (fun _ hk => hk.1.2) (.slice Ao33 t282.length co33)) (fun _ hk => hk.2) (.slice Ao31 t279.length co31)) (fun _ hk => hk.2) (.slice Ao33 t282.length co33)) (fun _ hk => trivial)⟩, ⟨by (with_reducible repeat (first | apply Kd.V_alloc | apply Kd.V_drewN | apply Kd.V_drew)); exact Kd.V_mono (Kd.V_far (p := ⟨gb276, 1, none⟩) (Kd.V_far (p := ⟨gb276, 0, none⟩) (Kd.V_far (p := ⟨gb287, 1, none⟩) (Kd.V_far (p := ⟨gb287, 0, none⟩) (Kd.V_mono (Kd.V_mono HO281.out (fun k_ hk => (⟨hk, hk.2.2⟩ : _ ∧ k_ ≠ gb287))) (fun k_ hk => (⟨hk, hk.1.2.1⟩ : _ ∧ k_ ≠ gb276))) (fun _ hk => hk.1.2) (.slice Ao31 t279.length co31)) (fun _ hk => hk.1.2) (.slice Ao33 t282.length co33)) (fun _ hk => hk.2) (.slice Ao31 t279.length co31)) (fun _ hk => hk.2) (.slice Ao33 t282.length co33)) (fun _ hk => ⟨hk.1.1.1, hk.1.1.2.1⟩)⟩, ⟨by (with_reducible repeat (first | apply Kd.V_alloc | apply Kd.V_drewN | apply Kd.V_drew)); exact Kd.V_mono (Kd.V_far (p := ⟨gb276, 1, none⟩) (Kd.V_far (p := ⟨gb276, 0, none⟩) (Kd.V_far (p := ⟨gb287, 1, none⟩) (Kd.V_far (p := ⟨gb287, 0, none⟩) (Kd.V_mono (Kd.V_mono HO284.out (fun k_ hk => (⟨hk, hk.2.2⟩ : _ ∧ k_ ≠ gb287))) (fun k_ hk => (⟨hk, hk.1.2.1⟩ : _ ∧ k_ ≠ gb276))) (fun _ hk => hk.1.2) (.slice Ao31 t279.length co31)) (fun _ hk => hk.1.2) (.slice Ao33 t282.length co33)) (fun _ hk => hk.2) (.slice Ao31 t279.length co31)) (fun _ hk => hk.2) (.slice Ao33 t282.length co33)) (fun _ hk => ⟨hk.1.1.1, hk.1.1.2.1⟩)⟩, ⟨by (with_reducible repeat (first | refine blk_drewN ?_ _ | refine blk_drew ?_ | refine blk_alloc ?_ _)); refine blk_put (cs := #[.slice Ao31 t279.length co31, .slice Ao26 x277001_1.length co26]) ?_ 1 _ rfl; (with_reducible repeat (first | refine blk_drewN ?_ _ | refine blk_drew ?_ | refine blk_alloc ?_ _)); refine blk_put (cs := #[.slice Ao25 x277000_1.length co25, .slice Ao26 x277001_1.length co26]) ?_ 0 _ rfl; (with_reducible repeat (first | refine blk_drewN ?_ _ | refine blk_drew ?_ | refine blk_alloc ?_ _)); refine blk_far ?_ NB276_287.out _; (with_reducible repeat (first | refine blk_drewN ?_ _ | refine blk_drew ?_ | refine blk_alloc ?_ _)); refine blk_far ?_ NB276_287.out _; (with_reducible repeat (first | refine blk_drewN ?_ _ | refine blk_drew ?_ | refine blk_alloc ?_ _)); exact BK276.out⟩, ⟨by repeat (first | (with_reducible first | exact HB.out | apply below_alloc | apply pw_below_drewN | apply below_drew1 | refine below_set ?_ GE276.out | refine below_set ?_ GE287.out) | exact HB.out)⟩⟩
          ·rw [if_neg c24] at H
           have c24b0 : (t285 == 0) = false := beq_eq_false_iff_ne.mpr c24
           have c24b1 : (t285 != 0) = true := bne_iff_ne.mpr c24
           have H' := Aside0.mk H
           clear H
           obtain ⟨Ao38, co38, eo38⟩ := Kd.V_slice HO_277000.out
           subst eo38
           obtain ⟨Ao39, co39, eo39⟩ := Kd.V_slice HO_277001.out
           subst eo39
           try go_wp2
           have n0_ := Aside0.mk (Kd.R_drew HO_7.out)
           have n1_ := Aside0.mk (Kd.V_drew HO_277000.out)
           have n2_ := Aside0.mk (Kd.V_drew HO_277001.out)
           have n3_ := Aside0.mk (blk_drew BK276.out)
           have n4_ := Aside0.mk (below_drew1 HB.out)
           clear HO_7
           clear HO_277000
           clear HO_277001
           clear BK276
           clear HB
           have HO_7 := n0_
           have HO_277000 := n1_
           have HO_277001 := n2_
           have BK276 := n3_
           have HB := n4_
           clear n0_ n1_ n2_ n3_ n4_
           have p277 : 0 ≤ (x10_1 : Int) := of_decide_eq_true (by first | (with_reducible assumption) | assumption)
           have q277 : x10_1 < (l2.length : Int) := of_decide_eq_true (by first | (with_reducible assumption) | assumption)
           obtain ⟨ad277, e277, hx277_0⟩ := Kd.at_int HR2.out x10_1 p277 q277
           have hw277_0 := hx277_0
           cases e277
           replace hx277_0 := (HB.out.cell (World.block_lt_of_cell? w _ hx277_0)).trans hx277_0
           replace p277 := eq_true p277
           replace q277 := eq_true q277
           have p278 : 0 ≤ (x10_1 : Int) := of_decide_eq_true (by first | (with_reducible assumption) | assumption)
           have q278 : x10_1 < (l2.length : Int) := of_decide_eq_true (by first | (with_reducible assumption) | assumption)
           obtain ⟨ad278, e278, hx278_0⟩ := Kd.at_int HR2.out x10_1 p278 q278
           have hw278_0 := hx278_0
           obtain rfl : ad277 = ad278 := (by injection e278)
           replace hx278_0 := (HB.out.cell (World.block_lt_of_cell? w _ hx278_0)).trans hx278_0
           replace p278 := eq_true p278
           replace q278 := eq_true q278
           refine start_ (n := 27) (S := fun w' => w'.cell? ⟨gb276, 0, none⟩ = some (.slice Ao38 x277000_1.length co38) ∧ w'.cell? ⟨gb276, 1, none⟩ = some (.slice Ao39 x277001_1.length co39) ∧ w'.cell? (ad277.add (x10_1).toNat) = some (.int .i64 (rd l2 x10_1)) ∧ w'.cell? (ad277.add (x10_1).toNat) = some (.int .i64 (rd l2 x10_1))) (ds := []) #[false, false, false, false, false, false, false, false, false, false, false, false, false, false, false, false, false, false, false, false, false, false, false, false, false, false, false] (by kernel_rfl) rfl rfl ⟨(blk_cell BK276.out 0).trans rfl, (blk_cell BK276.out 1).trans rfl, ((HB.out.cell (World.block_lt_of_cell? w _ hw277_0)).trans hw277_0), ((HB.out.cell (World.block_lt_of_cell? w _ hw278_0)).trans hw278_0)⟩ (fun hHeld => ?_); refine with_tabW stopgatelaw04_CreditEdges.tab7 stopgatelaw04_CreditEdges.bits7 (fun HT_ HW_ => ?_)
           generalize wc.drew = w40 at HO_7 HO_277000 HO_277001 BK276 HB hx277_0 hx278_0 hHeld ⊢
           refine pure_ (i := 1) (N := some 49) (v := ?_) (a' := ?_) #[false, true, false, false, false, false, false, false, false, false, false, false, false, false, false, false, false, false, false, false, false, false, false, false, false, false, false] rfl rfl (any_of HT_.out (by kernel_rfl)) (fun _ _ _ h => h) (Or.inl ⟨by rfl, ?_⟩) ?_ ?_
           rotate_left
           ·intro w'
            go_simp
            with_reducible rfl
           rotate_left
           ·simp only [Act.put, List.setIfInBounds_toArray, List.set_cons_zero, List.set_cons_succ, i64_w, i32_w]
            rfl
           refine pure_ (i := 2) (N := some 50) (v := ?_) (a' := ?_) #[false, true, true, false, false, false, false, false, false, false, false, false, false, false, false, false, false, false, false, false, false, false, false, false, false, false, false] rfl rfl (any_of HT_.out (by kernel_rfl)) (fun _ _ _ h => h) (Or.inl ⟨by rfl, ?_⟩) ?_ ?_
           rotate_left
           ·intro w'
            go_simp
            with_reducible rfl
           rotate_left
           ·simp only [Act.put, List.setIfInBounds_toArray, List.set_cons_zero, List.set_cons_succ, i64_w, i32_w]
            rfl
           refine pure_ (i := 3) (N := some 51) (v := ?_) (a' := ?_) #[false, true, true, true, false, false, false, false, false, false, false, false, false, false, false, false, false, false, false, false, false, false, false, false, false, false, false] rfl rfl (any_of HT_.out (by kernel_rfl)) (fun _ _ _ h => h) (Or.inl ⟨by rfl, ?_⟩) ?_ ?_
           rotate_left
           ·intro w'
            go_simp
            with_reducible rfl
           rotate_left
           ·simp only [Act.put, List.setIfInBounds_toArray, List.set_cons_zero, List.set_cons_succ, i64_w, i32_w]
            rfl
           refine pure_ (i := 6) (N := some 54) (v := ?_) (a' := ?_) #[false, true, true, true, false, false, true, false, false, false, false, false, false, false, false, false, false, false, false, false, false, false, false, false, false, false, false] rfl rfl (any_of HT_.out (by kernel_rfl)) (fun _ _ _ h => h) (Or.inl ⟨by rfl, ?_⟩) ?_ ?_
           rotate_left
           ·intro w'
            go_simp
            with_reducible rfl
           rotate_left
           ·simp only [Act.put, List.setIfInBounds_toArray, List.set_cons_zero, List.set_cons_succ, i64_w, i32_w]
            rfl
           refine pure_ (i := 7) (N := some 55) (v := ?_) (a' := ?_) #[false, true, true, true, false, false, true, true, false, false, false, false, false, false, false, false, false, false, false, false, false, false, false, false, false, false, false] rfl rfl (any_of HT_.out (by kernel_rfl)) (fun _ _ _ h => h) (Or.inl ⟨by rfl, ?_⟩) ?_ ?_
           rotate_left
           ·intro w'
            go_simp
            with_reducible rfl
           rotate_left
           ·simp only [Act.put, List.setIfInBounds_toArray, List.set_cons_zero, List.set_cons_succ, i64_w, i32_w]
            rfl
           refine pure_ (i := 8) (N := some 56) (v := ?_) (a' := ?_) #[false, true, true, true, false, false, true, true, true, false, false, false, false, false, false, false, false, false, false, false, false, false, false, false, false, false, false] rfl rfl (any_of HT_.out (by kernel_rfl)) (fun _ _ _ h => h) (Or.inl ⟨by rfl, ?_⟩) ?_ ?_
           rotate_left
           ·intro w'
            go_simp
            with_reducible rfl
           rotate_left
           ·simp only [Act.put, List.setIfInBounds_toArray, List.set_cons_zero, List.set_cons_succ, i64_w, i32_w]
            rfl
           refine pure_ (i := 11) (N := some 59) (v := ?_) (a' := ?_) #[false, true, true, true, false, false, true, true, true, false, false, true, false, false, false, false, false, false, false, false, false, false, false, false, false, false, false] rfl rfl (any_of HT_.out (by kernel_rfl)) (fun _ _ _ h => h) (Or.inl ⟨by rfl, ?_⟩) ?_ ?_
           rotate_left
           ·intro w'
            go_simp
            with_reducible rfl
           rotate_left
           ·simp only [Act.put, List.setIfInBounds_toArray, List.set_cons_zero, List.set_cons_succ, i64_w, i32_w]
            rfl
           refine pure_ (i := 12) (N := some 60) (v := ?_) (a' := ?_) #[false, true, true, true, false, false, true, true, true, false, false, true, true, false, false, false, false, false, false, false, false, false, false, false, false, false, false] rfl rfl (any_of HT_.out (by kernel_rfl)) (fun _ _ _ h => h) (Or.inl ⟨by rfl, ?_⟩) ?_ ?_
           rotate_left
           ·intro w'
            go_simp
            with_reducible rfl
           rotate_left
           ·simp only [Act.put, List.setIfInBounds_toArray, List.set_cons_zero, List.set_cons_succ, i64_w, i32_w]
            rfl
           refine pure_ (i := 13) (N := some 61) (v := ?_) (a' := ?_) #[false, true, true, true, false, false, true, true, true, false, false, true, true, true, false, false, false, false, false, false, false, false, false, false, false, false, false] rfl rfl (any_of HT_.out (by kernel_rfl)) (fun _ _ _ h => h) (Or.inl ⟨by rfl, ?_⟩) ?_ ?_
           rotate_left
           ·intro w'
            go_simp
            with_reducible rfl
           rotate_left
           ·simp only [Act.put, List.setIfInBounds_toArray, List.set_cons_zero, List.set_cons_succ, i64_w, i32_w]
            rfl
           refine take_ (i := 0) (N := some 48) (v := ?_) (a' := ?_) #[true, true, true, true, false, false, true, true, true, false, false, true, true, true, false, false, false, false, false, false, false, false, false, false, false, false, false] rfl rfl (take_ofW HT_.out HW_.out (by kernel_rfl)) (fun _ _ _ h => h) (Or.inl ⟨by rfl, ?_⟩) hHeld ?_ ?_
           rotate_left
           ·rintro w' ⟨s0, s1, s2, s3⟩
            go_simp
            with_reducible rfl
           rotate_left
           ·simp only [Act.put, List.setIfInBounds_toArray, List.set_cons_zero, List.set_cons_succ, i64_w, i32_w]
            rfl
           refine take_ (i := 4) (N := some 52) (v := ?_) (a' := ?_) #[true, true, true, true, true, false, true, true, true, false, false, true, true, true, false, false, false, false, false, false, false, false, false, false, false, false, false] rfl rfl (take_ofW HT_.out HW_.out (by kernel_rfl)) (fun _ _ _ h => h) (Or.inl ⟨by rfl, ?_⟩) hHeld ?_ ?_
           rotate_left
           ·rintro w' ⟨s0, s1, s2, s3⟩
            go_simp
            with_reducible rfl
           rotate_left
           ·simp only [Act.put, List.setIfInBounds_toArray, List.set_cons_zero, List.set_cons_succ, i64_w, i32_w]
            rfl
           refine pure_ (i := 5) (N := some 53) (v := ?_) (a' := ?_) #[true, true, true, true, true, true, true, true, true, false, false, true, true, true, false, false, false, false, false, false, false, false, false, false, false, false, false] rfl rfl (any_of HT_.out (by kernel_rfl)) (fun _ _ _ h => h) (Or.inl ⟨by rfl, ?_⟩) ?_ ?_
           rotate_left
           ·intro w'
            go_simp
            with_reducible rfl
           rotate_left
           ·simp only [Act.put, List.setIfInBounds_toArray, List.set_cons_zero, List.set_cons_succ, i64_w, i32_w]
            rfl
           refine pure_ (i := 9) (N := some 57) (v := ?_) (a' := ?_) #[true, true, true, true, true, true, true, true, true, true, false, true, true, true, false, false, false, false, false, false, false, false, false, false, false, false, false] rfl rfl (any_of HT_.out (by kernel_rfl)) (fun _ _ _ h => h) (Or.inl ⟨by rfl, ?_⟩) ?_ ?_
           rotate_left
           ·intro w'
            go_simp
            with_reducible rfl
           rotate_left
           ·simp only [Act.put, List.setIfInBounds_toArray, List.set_cons_zero, List.set_cons_succ, i64_w, i32_w]
            rfl
           refine pure_ (i := 10) (N := some 58) (v := ?_) (a' := ?_) #[true, true, true, true, true, true, true, true, true, true, true, true, true, true, false, false, false, false, false, false, false, false, false, false, false, false, false] rfl rfl (any_of HT_.out (by kernel_rfl)) (fun _ _ _ h => h) (Or.inl ⟨by rfl, ?_⟩) ?_ ?_
           rotate_left
           ·intro w'
            go_simp
            with_reducible rfl
           rotate_left
           ·simp only [Act.put, List.setIfInBounds_toArray, List.set_cons_zero, List.set_cons_succ, i64_w, i32_w]
            rfl
           refine take_ (i := 14) (N := some 62) (v := ?_) (a' := ?_) #[true, true, true, true, true, true, true, true, true, true, true, true, true, true, true, false, false, false, false, false, false, false, false, false, false, false, false] rfl rfl (take_ofW HT_.out HW_.out (by kernel_rfl)) (fun _ _ _ h => h) (Or.inl ⟨by rfl, ?_⟩) hHeld ?_ ?_
           rotate_left
           ·rintro w' ⟨s0, s1, s2, s3⟩
            go_simp
            with_reducible rfl
           rotate_left
           ·simp only [Act.put, List.setIfInBounds_toArray, List.set_cons_zero, List.set_cons_succ, i64_w, i32_w]
            rfl
           refine pure_ (i := 15) (N := some 63) (v := ?_) (a' := ?_) #[true, true, true, true, true, true, true, true, true, true, true, true, true, true, true, true, false, false, false, false, false, false, false, false, false, false, false] rfl rfl (any_of HT_.out (by kernel_rfl)) (fun _ _ _ h => h) (Or.inl ⟨by rfl, ?_⟩) ?_ ?_
           rotate_left
           ·intro w'
            go_simp
            with_reducible rfl
           rotate_left
           ·simp only [Act.put, List.setIfInBounds_toArray, List.set_cons_zero, List.set_cons_succ, i64_w, i32_w]
            rfl
           refine pure_ (i := 16) (N := some 64) (v := ?_) (a' := ?_) #[true, true, true, true, true, true, true, true, true, true, true, true, true, true, true, true, true, false, false, false, false, false, false, false, false, false, false] rfl rfl (any_of HT_.out (by kernel_rfl)) (fun _ _ _ h => h) (Or.inl ⟨by rfl, ?_⟩) ?_ ?_
           rotate_left
           ·intro w'
            go_simp
            with_reducible rfl
           rotate_left
           ·simp only [Act.put, List.setIfInBounds_toArray, List.set_cons_zero, List.set_cons_succ, i64_w, i32_w]
            rfl
           refine pure_ (i := 17) (N := some 65) (v := ?_) (a' := ?_) #[true, true, true, true, true, true, true, true, true, true, true, true, true, true, true, true, true, true, false, false, false, false, false, false, false, false, false] rfl rfl (any_of HT_.out (by kernel_rfl)) (fun _ _ _ h => h) (Or.inl ⟨by rfl, ?_⟩) ?_ ?_
           rotate_left
           ·intro w'
            go_simp
            with_reducible rfl
           rotate_left
           ·simp only [Act.put, List.setIfInBounds_toArray, List.set_cons_zero, List.set_cons_succ, i64_w, i32_w]
            rfl
           refine join_ (σ := Value × Value × Nat) 3 #[true, true, true, true, true, true, true, true, true, true, true, true, true, true, true, true, true, true, true, true, true, true, true, true, false, false, false] (fun s_ => [(66, .tuple #[.agg #[s_.1, s_.2.1], .int .i64 t285, .int .i64 t286]), (11, .pointer (some ⟨s_.2.2, 0, none⟩)), (47, .tuple #[.agg #[s_.1, s_.2.1], .int .i64 t285, .int .i64 t286]), (67, .agg #[s_.1, s_.2.1]), (68, .int .i64 t285), (69, .int .i64 t286)]) (fun s_ w' => (w'.cell? ⟨gb276, 0, none⟩ = some (.slice Ao38 x277000_1.length co38) ∧ w'.cell? ⟨gb276, 1, none⟩ = some (.slice Ao39 x277001_1.length co39) ∧ w'.cell? (ad277.add (x10_1).toNat) = some (.int .i64 (rd l2 x10_1)) ∧ w'.cell? (ad277.add (x10_1).toNat) = some (.int .i64 (rd l2 x10_1))) ∧ (Kd.V k43 43 w' w.heap.size (fun k_ => some k_ ≠ (.slice Ao9 t264.length co9 : Value).ownBlock ∧ k_ ≠ gb276 ∧ k_ ≠ s_.2.2) s_.1 t279) ∧ (Kd.V (Kd.int .i64) 2 w' w.heap.size (fun k_ => some k_ ≠ (.slice Ao9 t264.length co9 : Value).ownBlock ∧ k_ ≠ gb276 ∧ k_ ≠ s_.2.2) s_.2.1 t282) ∧ (Kd.V k43 43 w' w.heap.size (fun k_ => some k_ ≠ (.slice Ao9 t264.length co9 : Value).ownBlock ∧ k_ ≠ gb276 ∧ k_ ≠ s_.2.2) (.slice Ao38 x277000_1.length co38) x277000_1) ∧ (Kd.V (Kd.int .i64) 2 w' w.heap.size (fun k_ => some k_ ≠ (.slice Ao9 t264.length co9 : Value).ownBlock ∧ k_ ≠ gb276 ∧ k_ ≠ s_.2.2) (.slice Ao39 x277001_1.length co39) x277001_1) ∧ (Kd.R k68 68 w' w.heap.size (fun _ => True) (.slice Ao9 t264.length co9) t264) ∧ (w'.heap[gb276]? = some (.cells #[.slice Ao38 x277000_1.length co38, .slice Ao39 x277001_1.length co39] 61 (0, 0))) ∧ (w'.heap[s_.2.2]? = some (.cells #[.slice none 0 0, .slice none 0 0] 61 (0, 0))) ∧ (w.heap.size ≤ s_.2.2) ∧ (w.heap.size ≤ s_.2.2) ∧ (gb276 ≠ s_.2.2) ∧ (s_.2.2 ≠ gb276) ∧ (Below w.heap.size w w')) ?_ ?_
           rotate_left
           ·intro hCont
            refine two_ (i := 18) (j := 23) (Ni := some 66) (Nj := some 11) #[true, true, true, true, true, true, true, true, true, true, true, true, true, true, true, true, true, true, true, false, false, false, false, false, false, false, false] #[true, true, true, true, true, true, true, true, true, true, true, true, true, true, true, true, true, true, false, false, false, false, false, true, false, false, false] rfl rfl rfl rfl (two_of HT_.out (by kernel_rfl)) (by decide) (by decide) (fun K hK => ?_) (fun K hK => ?_)
            ·skip
             refine goes_ Try.func48 (by kernel_rfl) rfl #[.agg #[.slice Ao38 x277000_1.length co38, .slice Ao39 x277001_1.length co39], .int .i64 (wrap64 (Int.tmod (IntKind.u64.wrap (rd l2 x10_1)) (IntKind.u64.wrap ((t264.length : Int))))), .int .i64 (wrap64 (Int.tmod (IntKind.u64.wrap (rd l2 x10_1)) 1000))] (by rfl) rfl rfl (by (try simp only [List.map_toArray, List.map_cons, List.map_nil]); first | done | rfl | (simp only [List.length_drop, List.length_take]; rfl)) ?_
             with_reducible refine (credit_Reserve.calls kj16 (fun k_ => (some k_ ≠ (.slice Ao9 t264.length co9 : Value).ownBlock ∧ k_ ≠ gb276)) _ _ x277000_1 (fun k_ => (some k_ ≠ (.slice Ao9 t264.length co9 : Value).ownBlock ∧ k_ ≠ gb276)) _ _ x277001_1 (wrap64 (Int.tmod (IntKind.u64.wrap (rd l2 x10_1)) (IntKind.u64.wrap ((t264.length : Int))))) (wrap64 (Int.tmod (IntKind.u64.wrap (rd l2 x10_1)) 1000)) t279 t282 t285 t286 _ ?side1 ?side2 A23.out).mono ?_
             (case side1 => exact HO_277000.out)
             (case side2 => exact HO_277001.out)
             rintro e w41 ⟨v280, v283, rfl, ho0, ho1, hb⟩
             refine ⟨_, rfl, ?_⟩
             have n0_ := Aside0.mk (Kd.R_below (by (with_reducible repeat (first | apply Kd.R_alloc | apply Kd.R_drewN | apply Kd.R_drew)); exact HO_7.out) hb)
             have n1_ := Aside0.mk (Kd.V_below (by (with_reducible repeat (first | apply Kd.V_alloc | apply Kd.V_drewN | apply Kd.V_drew)); exact HO_277000.out) hb)
             have n2_ := Aside0.mk (Kd.V_below (by (with_reducible repeat (first | apply Kd.V_alloc | apply Kd.V_drewN | apply Kd.V_drew)); exact HO_277001.out) hb)
             have n3_ := Aside0.mk (Kd.V_lower (Kd.V_mono (ok' := fun k_ => some k_ ≠ (.slice Ao9 t264.length co9 : Value).ownBlock ∧ k_ ≠ gb276) ho0 (fun k_ hk_ => ⟨Or.elim hk_ (fun hs_ => Or.elim hs_ (fun hs_ => hs_.1) (fun hs_ => hs_.1)) (fun hn_ => (Kd.fresh' (Kd.R_lt (by (with_reducible repeat (first | apply Kd.R_alloc | apply Kd.R_drewN | apply Kd.R_drew)); exact HO_7.out)) k_ hn_)), Or.elim hk_ (fun hs_ => Or.elim hs_ (fun hs_ => hs_.2) (fun hs_ => hs_.2)) (fun hn_ => (Kd.freshB (g := gb276) (o := .cells #[.slice Ao38 x277000_1.length co38, .slice Ao39 x277001_1.length co39] 61 (0, 0)) (by (with_reducible repeat (first | refine blk_drewN ?_ _ | refine blk_drew ?_ | refine blk_alloc ?_ _)); exact BK276.out) k_ hn_))⟩)) (below_size (by repeat (first | (with_reducible first | exact HB.out | apply below_alloc | apply pw_below_drewN | apply below_drew1 | refine below_set ?_ GE276.out) | exact HB.out))))
             have n4_ := Aside0.mk (Kd.V_lower (Kd.V_mono (ok' := fun k_ => some k_ ≠ (.slice Ao9 t264.length co9 : Value).ownBlock ∧ k_ ≠ gb276) ho1 (fun k_ hk_ => ⟨Or.elim hk_ (fun hs_ => Or.elim hs_ (fun hs_ => hs_.1) (fun hs_ => hs_.1)) (fun hn_ => (Kd.fresh' (Kd.R_lt (by (with_reducible repeat (first | apply Kd.R_alloc | apply Kd.R_drewN | apply Kd.R_drew)); exact HO_7.out)) k_ hn_)), Or.elim hk_ (fun hs_ => Or.elim hs_ (fun hs_ => hs_.2) (fun hs_ => hs_.2)) (fun hn_ => (Kd.freshB (g := gb276) (o := .cells #[.slice Ao38 x277000_1.length co38, .slice Ao39 x277001_1.length co39] 61 (0, 0)) (by (with_reducible repeat (first | refine blk_drewN ?_ _ | refine blk_drew ?_ | refine blk_alloc ?_ _)); exact BK276.out) k_ hn_))⟩)) (below_size (by repeat (first | (with_reducible first | exact HB.out | apply below_alloc | apply pw_below_drewN | apply below_drew1 | refine below_set ?_ GE276.out) | exact HB.out))))
             have n5_ := Aside0.mk (blk_below (g := gb276) (o := .cells #[.slice Ao38 x277000_1.length co38, .slice Ao39 x277001_1.length co39] 61 (0, 0)) (by (with_reducible repeat (first | refine blk_drewN ?_ _ | refine blk_drew ?_ | refine blk_alloc ?_ _)); exact BK276.out) hb)
             have n6_ := Aside0.mk (below_step (by repeat (first | (with_reducible first | exact HB.out | apply below_alloc | apply pw_below_drewN | apply below_drew1 | refine below_set ?_ GE276.out) | exact HB.out)) hb)
             clear HO_7
             clear HO_277000
             clear HO_277001
             clear BK276
             clear HB
             have HO_7 := n0_
             have HO_277000 := n1_
             have HO_277001 := n2_
             have HO281 := n3_
             have HO284 := n4_
             have BK276 := n5_
             have HB := n6_
             clear n0_ n1_ n2_ n3_ n4_ n5_ n6_
             (try clear hb)
             (try clear hb2)
             (try clear hk)
             (try clear hi)
             (try clear ho0)
             (try clear ho1)
             refine hK.out _ _ ⟨(blk_cell BK276.out 0).trans rfl, (blk_cell BK276.out 1).trans rfl, ((HB.out.cell (World.block_lt_of_cell? w _ hw277_0)).trans hw277_0), ((HB.out.cell (World.block_lt_of_cell? w _ hw278_0)).trans hw278_0)⟩ (fun hHeld => ?_)
             clear hK K
             refine norm_ (a' := ?_) ?_ ?_
             rotate_left
             ·show Act.put _ (some 66) _ = _
              simp only [Act.put, List.setIfInBounds_toArray, List.set_cons_zero, List.set_cons_succ, i64_w, i32_w]
              rfl
             refine pure_ (i := 19) (N := some 47) (v := ?_) (a' := ?_) #[true, true, true, true, true, true, true, true, true, true, true, true, true, true, true, true, true, true, true, true, false, false, false, false, false, false, false] rfl rfl (any_of HT_.out (by kernel_rfl)) (fun _ _ _ h => h) (Or.inl ⟨by rfl, ?_⟩) ?_ ?_
             rotate_left
             ·intro w'
              go_simp
              with_reducible rfl
             rotate_left
             ·simp only [Act.put, List.setIfInBounds_toArray, List.set_cons_zero, List.set_cons_succ, i64_w, i32_w]
              rfl
             refine pure_ (i := 20) (N := some 67) (v := ?_) (a' := ?_) #[true, true, true, true, true, true, true, true, true, true, true, true, true, true, true, true, true, true, true, true, true, false, false, false, false, false, false] rfl rfl (any_of HT_.out (by kernel_rfl)) (fun _ _ _ h => h) (Or.inl ⟨by rfl, ?_⟩) ?_ ?_
             rotate_left
             ·intro w'
              go_simp
              with_reducible rfl
             rotate_left
             ·simp only [Act.put, List.setIfInBounds_toArray, List.set_cons_zero, List.set_cons_succ, i64_w, i32_w]
              rfl
             refine pure_ (i := 21) (N := some 68) (v := ?_) (a' := ?_) #[true, true, true, true, true, true, true, true, true, true, true, true, true, true, true, true, true, true, true, true, true, true, false, false, false, false, false] rfl rfl (any_of HT_.out (by kernel_rfl)) (fun _ _ _ h => h) (Or.inl ⟨by rfl, ?_⟩) ?_ ?_
             rotate_left
             ·intro w'
              go_simp
              with_reducible rfl
             rotate_left
             ·simp only [Act.put, List.setIfInBounds_toArray, List.set_cons_zero, List.set_cons_succ, i64_w, i32_w]
              rfl
             refine pure_ (i := 22) (N := some 69) (v := ?_) (a' := ?_) #[true, true, true, true, true, true, true, true, true, true, true, true, true, true, true, true, true, true, true, true, true, true, true, false, false, false, false] rfl rfl (any_of HT_.out (by kernel_rfl)) (fun _ _ _ h => h) (Or.inl ⟨by rfl, ?_⟩) ?_ ?_
             rotate_left
             ·intro w'
              go_simp
              with_reducible rfl
             rotate_left
             ·simp only [Act.put, List.setIfInBounds_toArray, List.set_cons_zero, List.set_cons_succ, i64_w, i32_w]
              rfl
             refine one_ (i := 23) (N := some 11) #[true, true, true, true, true, true, true, true, true, true, true, true, true, true, true, true, true, true, true, true, true, true, true, true, false, false, false] rfl rfl (one_of HT_.out (by kernel_rfl)) (by decide) (fun K hK => ?_)
             refine box_step ?hg (N := 11) ?hd (cs := #[.slice none 0 0, .slice none 0 0]) (t := 61) ?hr ?_; (case hd => rfl); (case hg => rfl); (case hr => first | (go_simp; done) | (go_simp; rfl))
             intro gb287 hg w42 hbox hb
             have n0_ := Aside0.mk (Kd.R_below (by (with_reducible repeat (first | apply Kd.R_alloc | apply Kd.R_drewN | apply Kd.R_drew)); exact HO_7.out) hb)
             have n1_ := Aside0.mk (Kd.V_below (Kd.V_elderB (by (with_reducible repeat (first | apply Kd.V_alloc | apply Kd.V_drewN | apply Kd.V_drew)); exact HO_277000.out) gb287 (Nat.le_of_eq hg.symm)) hb)
             have n2_ := Aside0.mk (Kd.V_below (Kd.V_elderB (by (with_reducible repeat (first | apply Kd.V_alloc | apply Kd.V_drewN | apply Kd.V_drew)); exact HO_277001.out) gb287 (Nat.le_of_eq hg.symm)) hb)
             have n3_ := Aside0.mk (Kd.V_below (Kd.V_elderB (by (with_reducible repeat (first | apply Kd.V_alloc | apply Kd.V_drewN | apply Kd.V_drew)); exact HO281.out) gb287 (Nat.le_of_eq hg.symm)) hb)
             have n4_ := Aside0.mk (Kd.V_below (Kd.V_elderB (by (with_reducible repeat (first | apply Kd.V_alloc | apply Kd.V_drewN | apply Kd.V_drew)); exact HO284.out) gb287 (Nat.le_of_eq hg.symm)) hb)
             have n5_ := Aside0.mk (blk_below (g := gb276) (o := .cells #[.slice Ao38 x277000_1.length co38, .slice Ao39 x277001_1.length co39] 61 (0, 0)) (by (with_reducible repeat (first | refine blk_drewN ?_ _ | refine blk_drew ?_ | refine blk_alloc ?_ _)); exact BK276.out) hb)
             have n6_ := Aside0.mk (below_step (by repeat (first | (with_reducible first | exact HB.out | apply below_alloc | apply pw_below_drewN | apply below_drew1 | refine below_set ?_ GE276.out) | exact HB.out)) hb)
             have n7_ := Aside0.mk (hbox)
             have n8_ := Aside0.mk ((by rw [hg]; exact (below_size (by repeat (first | (with_reducible first | exact HB.out | apply below_alloc | apply pw_below_drewN | apply below_drew1 | refine below_set ?_ GE276.out) | exact HB.out))) : w.heap.size ≤ gb287))
             have n9_ := Aside0.mk ((by rw [hg]; exact (below_size (by repeat (first | (with_reducible first | exact HB.out | apply below_alloc | apply pw_below_drewN | apply below_drew1 | refine below_set ?_ GE276.out) | exact HB.out))) : w.heap.size ≤ gb287))
             have n10_ := Aside0.mk ((by rw [hg]; exact Nat.ne_of_lt (blk_lt (g := gb276) (o := .cells #[.slice Ao38 x277000_1.length co38, .slice Ao39 x277001_1.length co39] 61 (0, 0)) (by (with_reducible repeat (first | refine blk_drewN ?_ _ | refine blk_drew ?_ | refine blk_alloc ?_ _)); exact BK276.out)) : gb276 ≠ gb287))
             have n11_ := Aside0.mk ((by rw [hg]; exact Nat.ne_of_gt (blk_lt (g := gb276) (o := .cells #[.slice Ao38 x277000_1.length co38, .slice Ao39 x277001_1.length co39] 61 (0, 0)) (by (with_reducible repeat (first | refine blk_drewN ?_ _ | refine blk_drew ?_ | refine blk_alloc ?_ _)); exact BK276.out)) : gb287 ≠ gb276))
             clear HO_7
             clear HO_277000
             clear HO_277001
             clear HO281
             clear HO284
             clear BK276
             clear HB
             have HO_7 := n0_
             have HO_277000 := n1_
             have HO_277001 := n2_
             have HO281 := n3_
             have HO284 := n4_
             have BK276 := n5_
             have HB := n6_
             have BK287 := n7_
             have GW287 := n8_
             have GE287 := n9_
             have NB276_287 := n10_
             have NB287_276 := n11_
             clear n0_ n1_ n2_ n3_ n4_ n5_ n6_ n7_ n8_ n9_ n10_ n11_
             clear hb hbox hg
             refine hK.out _ _ ⟨(blk_cell BK276.out 0).trans rfl, (blk_cell BK276.out 1).trans rfl, ((HB.out.cell (World.block_lt_of_cell? w _ hw277_0)).trans hw277_0), ((HB.out.cell (World.block_lt_of_cell? w _ hw278_0)).trans hw278_0)⟩ (fun hHeld => ?_)
             clear hK K
             refine norm_ (a' := ?_) ?_ ?_
             rotate_left
             ·show Act.put _ (some 11) _ = _
              simp only [Act.put, List.setIfInBounds_toArray, List.set_cons_zero, List.set_cons_succ, i64_w, i32_w]
              rfl
             exact norm_ (by simp only [putAll, Act.put, List.setIfInBounds_toArray, List.set_cons_zero, List.set_cons_succ]) (hCont (v280, v283, gb287) _ ⟨hHeld, (by (with_reducible repeat (first | apply Kd.V_alloc | apply Kd.V_drewN | apply Kd.V_drew)); exact Kd.V_mono HO281.out (fun _ hk => ⟨hk.1.1, ⟨hk.1.2, hk.2⟩⟩)), (by (with_reducible repeat (first | apply Kd.V_alloc | apply Kd.V_drewN | apply Kd.V_drew)); exact Kd.V_mono HO284.out (fun _ hk => ⟨hk.1.1, ⟨hk.1.2, hk.2⟩⟩)), (by (with_reducible repeat (first | apply Kd.V_alloc | apply Kd.V_drewN | apply Kd.V_drew)); exact Kd.V_mono HO_277000.out (fun _ hk => ⟨hk.1.1, ⟨hk.1.2, hk.2⟩⟩)), (by (with_reducible repeat (first | apply Kd.V_alloc | apply Kd.V_drewN | apply Kd.V_drew)); exact Kd.V_mono HO_277001.out (fun _ hk => ⟨hk.1.1, ⟨hk.1.2, hk.2⟩⟩)), (by (with_reducible repeat (first | apply Kd.R_alloc | apply Kd.R_drewN | apply Kd.R_drew)); exact HO_7.out), (by (with_reducible repeat (first | refine blk_drewN ?_ _ | refine blk_drew ?_ | refine blk_alloc ?_ _)); exact BK276.out), (by (with_reducible repeat (first | refine blk_drewN ?_ _ | refine blk_drew ?_ | refine blk_alloc ?_ _)); exact BK287.out), GW287.out, GE287.out, NB276_287.out, NB287_276.out, (by repeat (first | (with_reducible first | exact HB.out | apply below_alloc | apply pw_below_drewN | apply below_drew1 | refine below_set ?_ GE276.out | refine below_set ?_ GE287.out) | exact HB.out))⟩)
            ·skip
             refine box_step ?hg (N := 11) ?hd (cs := #[.slice none 0 0, .slice none 0 0]) (t := 61) ?hr ?_; (case hd => rfl); (case hg => rfl); (case hr => first | (go_simp; done) | (go_simp; rfl))
             intro gb287 hg w41 hbox hb
             have n0_ := Aside0.mk (Kd.R_below (by (with_reducible repeat (first | apply Kd.R_alloc | apply Kd.R_drewN | apply Kd.R_drew)); exact HO_7.out) hb)
             have n1_ := Aside0.mk (Kd.V_below (Kd.V_elderB (by (with_reducible repeat (first | apply Kd.V_alloc | apply Kd.V_drewN | apply Kd.V_drew)); exact HO_277000.out) gb287 (Nat.le_of_eq hg.symm)) hb)
             have n2_ := Aside0.mk (Kd.V_below (Kd.V_elderB (by (with_reducible repeat (first | apply Kd.V_alloc | apply Kd.V_drewN | apply Kd.V_drew)); exact HO_277001.out) gb287 (Nat.le_of_eq hg.symm)) hb)
             have n3_ := Aside0.mk (blk_below (g := gb276) (o := .cells #[.slice Ao38 x277000_1.length co38, .slice Ao39 x277001_1.length co39] 61 (0, 0)) (by (with_reducible repeat (first | refine blk_drewN ?_ _ | refine blk_drew ?_ | refine blk_alloc ?_ _)); exact BK276.out) hb)
             have n4_ := Aside0.mk (below_step (by repeat (first | (with_reducible first | exact HB.out | apply below_alloc | apply pw_below_drewN | apply below_drew1 | refine below_set ?_ GE276.out) | exact HB.out)) hb)
             have n5_ := Aside0.mk (hbox)
             have n6_ := Aside0.mk ((by rw [hg]; exact (below_size (by repeat (first | (with_reducible first | exact HB.out | apply below_alloc | apply pw_below_drewN | apply below_drew1 | refine below_set ?_ GE276.out) | exact HB.out))) : w.heap.size ≤ gb287))
             have n7_ := Aside0.mk ((by rw [hg]; exact (below_size (by repeat (first | (with_reducible first | exact HB.out | apply below_alloc | apply pw_below_drewN | apply below_drew1 | refine below_set ?_ GE276.out) | exact HB.out))) : w.heap.size ≤ gb287))
             have n8_ := Aside0.mk ((by rw [hg]; exact Nat.ne_of_lt (blk_lt (g := gb276) (o := .cells #[.slice Ao38 x277000_1.length co38, .slice Ao39 x277001_1.length co39] 61 (0, 0)) (by (with_reducible repeat (first | refine blk_drewN ?_ _ | refine blk_drew ?_ | refine blk_alloc ?_ _)); exact BK276.out)) : gb276 ≠ gb287))
             have n9_ := Aside0.mk ((by rw [hg]; exact Nat.ne_of_gt (blk_lt (g := gb276) (o := .cells #[.slice Ao38 x277000_1.length co38, .slice Ao39 x277001_1.length co39] 61 (0, 0)) (by (with_reducible repeat (first | refine blk_drewN ?_ _ | refine blk_drew ?_ | refine blk_alloc ?_ _)); exact BK276.out)) : gb287 ≠ gb276))
             clear HO_7
             clear HO_277000
             clear HO_277001
             clear BK276
             clear HB
             have HO_7 := n0_
             have HO_277000 := n1_
             have HO_277001 := n2_
             have BK276 := n3_
             have HB := n4_
             have BK287 := n5_
             have GW287 := n6_
             have GE287 := n7_
             have NB276_287 := n8_
             have NB287_276 := n9_
             clear n0_ n1_ n2_ n3_ n4_ n5_ n6_ n7_ n8_ n9_
             clear hb hbox hg
             refine hK.out _ _ ⟨(blk_cell BK276.out 0).trans rfl, (blk_cell BK276.out 1).trans rfl, ((HB.out.cell (World.block_lt_of_cell? w _ hw277_0)).trans hw277_0), ((HB.out.cell (World.block_lt_of_cell? w _ hw278_0)).trans hw278_0)⟩ (fun hHeld => ?_)
             clear hK K
             refine norm_ (a' := ?_) ?_ ?_
             rotate_left
             ·show Act.put _ (some 11) _ = _
              simp only [Act.put, List.setIfInBounds_toArray, List.set_cons_zero, List.set_cons_succ, i64_w, i32_w]
              rfl
             refine one_ (i := 18) (N := some 66) #[true, true, true, true, true, true, true, true, true, true, true, true, true, true, true, true, true, true, true, false, false, false, false, true, false, false, false] rfl rfl (one_of HT_.out (by kernel_rfl)) (by decide) (fun K hK => ?_)
             refine goes_ Try.func48 (by kernel_rfl) rfl #[.agg #[.slice Ao38 x277000_1.length co38, .slice Ao39 x277001_1.length co39], .int .i64 (wrap64 (Int.tmod (IntKind.u64.wrap (rd l2 x10_1)) (IntKind.u64.wrap ((t264.length : Int))))), .int .i64 (wrap64 (Int.tmod (IntKind.u64.wrap (rd l2 x10_1)) 1000))] (by rfl) rfl rfl (by (try simp only [List.map_toArray, List.map_cons, List.map_nil]); first | done | rfl | (simp only [List.length_drop, List.length_take]; rfl)) ?_
             with_reducible refine (credit_Reserve.calls kj16 (fun k_ => ((some k_ ≠ (.slice Ao9 t264.length co9 : Value).ownBlock ∧ k_ ≠ gb276) ∧ k_ ≠ gb287)) _ _ x277000_1 (fun k_ => ((some k_ ≠ (.slice Ao9 t264.length co9 : Value).ownBlock ∧ k_ ≠ gb276) ∧ k_ ≠ gb287)) _ _ x277001_1 (wrap64 (Int.tmod (IntKind.u64.wrap (rd l2 x10_1)) (IntKind.u64.wrap ((t264.length : Int))))) (wrap64 (Int.tmod (IntKind.u64.wrap (rd l2 x10_1)) 1000)) t279 t282 t285 t286 _ ?side1 ?side2 A23.out).mono ?_
             (case side1 => exact HO_277000.out)
             (case side2 => exact HO_277001.out)
             rintro e w42 ⟨v280, v283, rfl, ho0, ho1, hb⟩
             refine ⟨_, rfl, ?_⟩
             have n0_ := Aside0.mk (Kd.R_below (by (with_reducible repeat (first | apply Kd.R_alloc | apply Kd.R_drewN | apply Kd.R_drew)); exact HO_7.out) hb)
             have n1_ := Aside0.mk (Kd.V_below (by (with_reducible repeat (first | apply Kd.V_alloc | apply Kd.V_drewN | apply Kd.V_drew)); exact HO_277000.out) hb)
             have n2_ := Aside0.mk (Kd.V_below (by (with_reducible repeat (first | apply Kd.V_alloc | apply Kd.V_drewN | apply Kd.V_drew)); exact HO_277001.out) hb)
             have n3_ := Aside0.mk (Kd.V_lower (Kd.V_mono (ok' := fun k_ => some k_ ≠ (.slice Ao9 t264.length co9 : Value).ownBlock ∧ k_ ≠ gb276 ∧ k_ ≠ gb287) ho0 (fun k_ hk_ => ⟨Or.elim hk_ (fun hs_ => Or.elim hs_ (fun hs_ => hs_.1.1) (fun hs_ => hs_.1.1)) (fun hn_ => (Kd.fresh' (Kd.R_lt (by (with_reducible repeat (first | apply Kd.R_alloc | apply Kd.R_drewN | apply Kd.R_drew)); exact HO_7.out)) k_ hn_)), Or.elim hk_ (fun hs_ => Or.elim hs_ (fun hs_ => hs_.1.2) (fun hs_ => hs_.1.2)) (fun hn_ => (Kd.freshB (g := gb276) (o := .cells #[.slice Ao38 x277000_1.length co38, .slice Ao39 x277001_1.length co39] 61 (0, 0)) (by (with_reducible repeat (first | refine blk_drewN ?_ _ | refine blk_drew ?_ | refine blk_alloc ?_ _)); exact BK276.out) k_ hn_)), Or.elim hk_ (fun hs_ => Or.elim hs_ (fun hs_ => hs_.2) (fun hs_ => hs_.2)) (fun hn_ => (Kd.freshB (g := gb287) (o := .cells #[.slice none 0 0, .slice none 0 0] 61 (0, 0)) (by (with_reducible repeat (first | refine blk_drewN ?_ _ | refine blk_drew ?_ | refine blk_alloc ?_ _)); exact BK287.out) k_ hn_))⟩)) (below_size (by repeat (first | (with_reducible first | exact HB.out | apply below_alloc | apply pw_below_drewN | apply below_drew1 | refine below_set ?_ GE276.out | refine below_set ?_ GE287.out) | exact HB.out))))
             have n4_ := Aside0.mk (Kd.V_lower (Kd.V_mono (ok' := fun k_ => some k_ ≠ (.slice Ao9 t264.length co9 : Value).ownBlock ∧ k_ ≠ gb276 ∧ k_ ≠ gb287) ho1 (fun k_ hk_ => ⟨Or.elim hk_ (fun hs_ => Or.elim hs_ (fun hs_ => hs_.1.1) (fun hs_ => hs_.1.1)) (fun hn_ => (Kd.fresh' (Kd.R_lt (by (with_reducible repeat (first | apply Kd.R_alloc | apply Kd.R_drewN | apply Kd.R_drew)); exact HO_7.out)) k_ hn_)), Or.elim hk_ (fun hs_ => Or.elim hs_ (fun hs_ => hs_.1.2) (fun hs_ => hs_.1.2)) (fun hn_ => (Kd.freshB (g := gb276) (o := .cells #[.slice Ao38 x277000_1.length co38, .slice Ao39 x277001_1.length co39] 61 (0, 0)) (by (with_reducible repeat (first | refine blk_drewN ?_ _ | refine blk_drew ?_ | refine blk_alloc ?_ _)); exact BK276.out) k_ hn_)), Or.elim hk_ (fun hs_ => Or.elim hs_ (fun hs_ => hs_.2) (fun hs_ => hs_.2)) (fun hn_ => (Kd.freshB (g := gb287) (o := .cells #[.slice none 0 0, .slice none 0 0] 61 (0, 0)) (by (with_reducible repeat (first | refine blk_drewN ?_ _ | refine blk_drew ?_ | refine blk_alloc ?_ _)); exact BK287.out) k_ hn_))⟩)) (below_size (by repeat (first | (with_reducible first | exact HB.out | apply below_alloc | apply pw_below_drewN | apply below_drew1 | refine below_set ?_ GE276.out | refine below_set ?_ GE287.out) | exact HB.out))))
             have n5_ := Aside0.mk (blk_below (g := gb276) (o := .cells #[.slice Ao38 x277000_1.length co38, .slice Ao39 x277001_1.length co39] 61 (0, 0)) (by (with_reducible repeat (first | refine blk_drewN ?_ _ | refine blk_drew ?_ | refine blk_alloc ?_ _)); exact BK276.out) hb)
             have n6_ := Aside0.mk (blk_below (g := gb287) (o := .cells #[.slice none 0 0, .slice none 0 0] 61 (0, 0)) (by (with_reducible repeat (first | refine blk_drewN ?_ _ | refine blk_drew ?_ | refine blk_alloc ?_ _)); exact BK287.out) hb)
             have n7_ := Aside0.mk (below_step (by repeat (first | (with_reducible first | exact HB.out | apply below_alloc | apply pw_below_drewN | apply below_drew1 | refine below_set ?_ GE276.out | refine below_set ?_ GE287.out) | exact HB.out)) hb)
             clear HO_7
             clear HO_277000
             clear HO_277001
             clear BK276
             clear BK287
             clear HB
             have HO_7 := n0_
             have HO_277000 := n1_
             have HO_277001 := n2_
             have HO281 := n3_
             have HO284 := n4_
             have BK276 := n5_
             have BK287 := n6_
             have HB := n7_
             clear n0_ n1_ n2_ n3_ n4_ n5_ n6_ n7_
             (try clear hb)
             (try clear hb2)
             (try clear hk)
             (try clear hi)
             (try clear ho0)
             (try clear ho1)
             refine hK.out _ _ ⟨(blk_cell BK276.out 0).trans rfl, (blk_cell BK276.out 1).trans rfl, ((HB.out.cell (World.block_lt_of_cell? w _ hw277_0)).trans hw277_0), ((HB.out.cell (World.block_lt_of_cell? w _ hw278_0)).trans hw278_0)⟩ (fun hHeld => ?_)
             clear hK K
             refine norm_ (a' := ?_) ?_ ?_
             rotate_left
             ·show Act.put _ (some 66) _ = _
              simp only [Act.put, List.setIfInBounds_toArray, List.set_cons_zero, List.set_cons_succ, i64_w, i32_w]
              rfl
             refine pure_ (i := 19) (N := some 47) (v := ?_) (a' := ?_) #[true, true, true, true, true, true, true, true, true, true, true, true, true, true, true, true, true, true, true, true, false, false, false, true, false, false, false] rfl rfl (any_of HT_.out (by kernel_rfl)) (fun _ _ _ h => h) (Or.inl ⟨by rfl, ?_⟩) ?_ ?_
             rotate_left
             ·intro w'
              go_simp
              with_reducible rfl
             rotate_left
             ·simp only [Act.put, List.setIfInBounds_toArray, List.set_cons_zero, List.set_cons_succ, i64_w, i32_w]
              rfl
             refine pure_ (i := 20) (N := some 67) (v := ?_) (a' := ?_) #[true, true, true, true, true, true, true, true, true, true, true, true, true, true, true, true, true, true, true, true, true, false, false, true, false, false, false] rfl rfl (any_of HT_.out (by kernel_rfl)) (fun _ _ _ h => h) (Or.inl ⟨by rfl, ?_⟩) ?_ ?_
             rotate_left
             ·intro w'
              go_simp
              with_reducible rfl
             rotate_left
             ·simp only [Act.put, List.setIfInBounds_toArray, List.set_cons_zero, List.set_cons_succ, i64_w, i32_w]
              rfl
             refine pure_ (i := 21) (N := some 68) (v := ?_) (a' := ?_) #[true, true, true, true, true, true, true, true, true, true, true, true, true, true, true, true, true, true, true, true, true, true, false, true, false, false, false] rfl rfl (any_of HT_.out (by kernel_rfl)) (fun _ _ _ h => h) (Or.inl ⟨by rfl, ?_⟩) ?_ ?_
             rotate_left
             ·intro w'
              go_simp
              with_reducible rfl
             rotate_left
             ·simp only [Act.put, List.setIfInBounds_toArray, List.set_cons_zero, List.set_cons_succ, i64_w, i32_w]
              rfl
             refine pure_ (i := 22) (N := some 69) (v := ?_) (a' := ?_) #[true, true, true, true, true, true, true, true, true, true, true, true, true, true, true, true, true, true, true, true, true, true, true, true, false, false, false] rfl rfl (any_of HT_.out (by kernel_rfl)) (fun _ _ _ h => h) (Or.inl ⟨by rfl, ?_⟩) ?_ ?_
             rotate_left
             ·intro w'
              go_simp
              with_reducible rfl
             rotate_left
             ·simp only [Act.put, List.setIfInBounds_toArray, List.set_cons_zero, List.set_cons_succ, i64_w, i32_w]
              rfl
             exact norm_ (by simp only [putAll, Act.put, List.setIfInBounds_toArray, List.set_cons_zero, List.set_cons_succ]) (hCont (v280, v283, gb287) _ ⟨hHeld, (by (with_reducible repeat (first | apply Kd.V_alloc | apply Kd.V_drewN | apply Kd.V_drew)); exact HO281.out), (by (with_reducible repeat (first | apply Kd.V_alloc | apply Kd.V_drewN | apply Kd.V_drew)); exact HO284.out), (by (with_reducible repeat (first | apply Kd.V_alloc | apply Kd.V_drewN | apply Kd.V_drew)); exact Kd.V_mono HO_277000.out (fun _ hk => ⟨hk.1.1, ⟨hk.1.2, hk.2⟩⟩)), (by (with_reducible repeat (first | apply Kd.V_alloc | apply Kd.V_drewN | apply Kd.V_drew)); exact Kd.V_mono HO_277001.out (fun _ hk => ⟨hk.1.1, ⟨hk.1.2, hk.2⟩⟩)), (by (with_reducible repeat (first | apply Kd.R_alloc | apply Kd.R_drewN | apply Kd.R_drew)); exact HO_7.out), (by (with_reducible repeat (first | refine blk_drewN ?_ _ | refine blk_drew ?_ | refine blk_alloc ?_ _)); exact BK276.out), (by (with_reducible repeat (first | refine blk_drewN ?_ _ | refine blk_drew ?_ | refine blk_alloc ?_ _)); exact BK287.out), GW287.out, GE287.out, NB276_287.out, NB287_276.out, (by repeat (first | (with_reducible first | exact HB.out | apply below_alloc | apply pw_below_drewN | apply below_drew1 | refine below_set ?_ GE276.out | refine below_set ?_ GE287.out) | exact HB.out))⟩)
           rintro ⟨v280, v283, gb287⟩ w43 ⟨hS_, h0_, h1_, h2_, h3_, h4_, h5_, h6_, h7_, h8_, h9_, h10_, h11_⟩
           have n0_ : Aside0 (Kd.V k43 43 w43 w.heap.size (fun k_ => some k_ ≠ (.slice Ao9 t264.length co9 : Value).ownBlock ∧ k_ ≠ gb276 ∧ k_ ≠ gb287) v280 t279) := ⟨h0_⟩
           have n1_ : Aside0 (Kd.V (Kd.int .i64) 2 w43 w.heap.size (fun k_ => some k_ ≠ (.slice Ao9 t264.length co9 : Value).ownBlock ∧ k_ ≠ gb276 ∧ k_ ≠ gb287) v283 t282) := ⟨h1_⟩
           have n2_ : Aside0 (Kd.V k43 43 w43 w.heap.size (fun k_ => some k_ ≠ (.slice Ao9 t264.length co9 : Value).ownBlock ∧ k_ ≠ gb276 ∧ k_ ≠ gb287) (.slice Ao38 x277000_1.length co38) x277000_1) := ⟨h2_⟩
           have n3_ : Aside0 (Kd.V (Kd.int .i64) 2 w43 w.heap.size (fun k_ => some k_ ≠ (.slice Ao9 t264.length co9 : Value).ownBlock ∧ k_ ≠ gb276 ∧ k_ ≠ gb287) (.slice Ao39 x277001_1.length co39) x277001_1) := ⟨h3_⟩
           have n4_ : Aside0 (Kd.R k68 68 w43 w.heap.size (fun _ => True) (.slice Ao9 t264.length co9) t264) := ⟨h4_⟩
           have n5_ : Aside0 (w43.heap[gb276]? = some (.cells #[.slice Ao38 x277000_1.length co38, .slice Ao39 x277001_1.length co39] 61 (0, 0))) := ⟨h5_⟩
           have n6_ : Aside0 (w43.heap[gb287]? = some (.cells #[.slice none 0 0, .slice none 0 0] 61 (0, 0))) := ⟨h6_⟩
           have n7_ : Aside0 (w.heap.size ≤ gb287) := ⟨h7_⟩
           have n8_ : Aside0 (w.heap.size ≤ gb287) := ⟨h8_⟩
           have n9_ : Aside0 (gb276 ≠ gb287) := ⟨h9_⟩
           have n10_ : Aside0 (gb287 ≠ gb276) := ⟨h10_⟩
           have n11_ : Aside0 (Below w.heap.size w w43) := ⟨h11_⟩
           clear HO_7
           clear HO_277000
           clear HO_277001
           clear BK276
           clear HB
           clear h0_ h1_ h2_ h3_ h4_ h5_ h6_ h7_ h8_ h9_ h10_ h11_
           have HO281 := n0_
           have HO284 := n1_
           have HO_277000 := n2_
           have HO_277001 := n3_
           have HO_7 := n4_
           have BK276 := n5_
           have BK287 := n6_
           have GW287 := n7_
           have GE287 := n8_
           have NB276_287 := n9_
           have NB287_276 := n10_
           have HB := n11_
           clear n0_ n1_ n2_ n3_ n4_ n5_ n6_ n7_ n8_ n9_ n10_ n11_
           have hHeld : w43.cell? ⟨gb276, 0, none⟩ = some (.slice Ao38 x277000_1.length co38) ∧ w43.cell? ⟨gb276, 1, none⟩ = some (.slice Ao39 x277001_1.length co39) ∧ w43.cell? (ad277.add (x10_1).toNat) = some (.int .i64 (rd l2 x10_1)) ∧ w43.cell? (ad277.add (x10_1).toNat) = some (.int .i64 (rd l2 x10_1)) := hS_
           obtain ⟨Ao44, co44, eo44⟩ := Kd.V_slice HO281.out
           (first | subst eo44 | (injection eo44 with f1_ f2_ f3_; have f4_ := f1_.symm; have f5_ := f3_.symm; clear f1_ f2_ f3_; subst f4_; subst f5_))
           obtain ⟨Ao46, co46, eo46⟩ := Kd.V_slice HO284.out
           (first | subst eo46 | (injection eo46 with f1_ f2_ f3_; have f4_ := f1_.symm; have f5_ := f3_.symm; clear f1_ f2_ f3_; subst f4_; subst f5_))
           refine norm_ (a' := ?_) ?_ ?_
           rotate_left
           ·simp only [putAll, Act.put, List.setIfInBounds_toArray, List.set_cons_zero, List.set_cons_succ]
            rfl
           refine one_ (i := 24) (N := none) #[true, true, true, true, true, true, true, true, true, true, true, true, true, true, true, true, true, true, true, true, true, true, true, true, true, false, false] rfl rfl (one_of HT_.out (by kernel_rfl)) (by decide) (fun K hK => ?_)
           have hs45 : w43.cell? ⟨gb287, 0, none⟩ = some (.slice none 0 0) := (blk_cell BK287.out 0).trans rfl
           have hfs45 := blk_frozen BK287.out 0
           have hns45_0 := NB276_287.out
           have hms45_0 := NB287_276.out
           have hs47 : w43.cell? ⟨gb287, 1, none⟩ = some (.slice none 0 0) := (blk_cell BK287.out 1).trans rfl
           have hfs47 := blk_frozen BK287.out 1
           have hns47_0 := NB276_287.out
           have hms47_0 := NB287_276.out
           refine skip_ (w1 := ?_) (by rfl) rfl ?_ ?_
           rotate_left
           ·go_simp
            rfl
           refine hK.out _ _ ⟨((cell_far (p := ⟨gb287, _, none⟩) NB276_287.out _).trans (((cell_far (p := ⟨gb287, _, none⟩) NB276_287.out _).trans (hHeld.1)))), ((cell_far (p := ⟨gb287, _, none⟩) NB276_287.out _).trans (((cell_far (p := ⟨gb287, _, none⟩) NB276_287.out _).trans (hHeld.2.1)))), ((cell_far (p := ⟨gb287, _, none⟩) (by first | exact Nat.ne_of_lt (Nat.lt_of_lt_of_le (by have := World.block_lt_of_cell? _ _ hw277_0; first | rwa [add_block] at this | exact this) GW287.out) | (rw [add_block]; exact Nat.ne_of_lt (Nat.lt_of_lt_of_le (by have := World.block_lt_of_cell? _ _ hw277_0; first | rwa [add_block] at this | exact this) GW287.out)) | (show (Addr.add _ _).block ≠ _; rw [add_block]; exact Nat.ne_of_lt (Nat.lt_of_lt_of_le (by have := World.block_lt_of_cell? _ _ hw277_0; first | rwa [add_block] at this | exact this) GW287.out)) | (dsimp only; exact Nat.ne_of_lt (Nat.lt_of_lt_of_le (by have := World.block_lt_of_cell? _ _ hw277_0; first | rwa [add_block] at this | exact this) GW287.out))) _).trans (((cell_far (p := ⟨gb287, _, none⟩) (by first | exact Nat.ne_of_lt (Nat.lt_of_lt_of_le (by have := World.block_lt_of_cell? _ _ hw277_0; first | rwa [add_block] at this | exact this) GW287.out) | (rw [add_block]; exact Nat.ne_of_lt (Nat.lt_of_lt_of_le (by have := World.block_lt_of_cell? _ _ hw277_0; first | rwa [add_block] at this | exact this) GW287.out)) | (show (Addr.add _ _).block ≠ _; rw [add_block]; exact Nat.ne_of_lt (Nat.lt_of_lt_of_le (by have := World.block_lt_of_cell? _ _ hw277_0; first | rwa [add_block] at this | exact this) GW287.out)) | (dsimp only; exact Nat.ne_of_lt (Nat.lt_of_lt_of_le (by have := World.block_lt_of_cell? _ _ hw277_0; first | rwa [add_block] at this | exact this) GW287.out))) _).trans (hHeld.2.2.1)))), ((cell_far (p := ⟨gb287, _, none⟩) (by first | exact Nat.ne_of_lt (Nat.lt_of_lt_of_le (by have := World.block_lt_of_cell? _ _ hw278_0; first | rwa [add_block] at this | exact this) GW287.out) | (rw [add_block]; exact Nat.ne_of_lt (Nat.lt_of_lt_of_le (by have := World.block_lt_of_cell? _ _ hw278_0; first | rwa [add_block] at this | exact this) GW287.out)) | (show (Addr.add _ _).block ≠ _; rw [add_block]; exact Nat.ne_of_lt (Nat.lt_of_lt_of_le (by have := World.block_lt_of_cell? _ _ hw278_0; first | rwa [add_block] at this | exact this) GW287.out)) | (dsimp only; exact Nat.ne_of_lt (Nat.lt_of_lt_of_le (by have := World.block_lt_of_cell? _ _ hw278_0; first | rwa [add_block] at this | exact this) GW287.out))) _).trans (((cell_far (p := ⟨gb287, _, none⟩) (by first | exact Nat.ne_of_lt (Nat.lt_of_lt_of_le (by have := World.block_lt_of_cell? _ _ hw278_0; first | rwa [add_block] at this | exact this) GW287.out) | (rw [add_block]; exact Nat.ne_of_lt (Nat.lt_of_lt_of_le (by have := World.block_lt_of_cell? _ _ hw278_0; first | rwa [add_block] at this | exact this) GW287.out)) | (show (Addr.add _ _).block ≠ _; rw [add_block]; exact Nat.ne_of_lt (Nat.lt_of_lt_of_le (by have := World.block_lt_of_cell? _ _ hw278_0; first | rwa [add_block] at this | exact this) GW287.out)) | (dsimp only; exact Nat.ne_of_lt (Nat.lt_of_lt_of_le (by have := World.block_lt_of_cell? _ _ hw278_0; first | rwa [add_block] at this | exact this) GW287.out))) _).trans (hHeld.2.2.2))))⟩ (fun hHeld => ?_)
           clear hK K
           refine pure_ (i := 25) (N := some 12) (v := ?_) (a' := ?_) #[true, true, true, true, true, true, true, true, true, true, true, true, true, true, true, true, true, true, true, true, true, true, true, true, true, true, false] rfl rfl (any_of HT_.out (by kernel_rfl)) (fun _ _ _ h => h) (Or.inl ⟨by rfl, ?_⟩) ?_ ?_
           rotate_left
           ·intro w'
            go_simp
            with_reducible rfl
           rotate_left
           ·simp only [Act.put, List.setIfInBounds_toArray, List.set_cons_zero, List.set_cons_succ, i64_w, i32_w]
            rfl
           refine pure_ (i := 26) (N := some 13) (v := ?_) (a' := ?_) #[true, true, true, true, true, true, true, true, true, true, true, true, true, true, true, true, true, true, true, true, true, true, true, true, true, true, true] rfl rfl (any_of HT_.out (by kernel_rfl)) (fun _ _ _ h => h) (Or.inl ⟨by rfl, ?_⟩) ?_ ?_
           rotate_left
           ·intro w'
            go_simp
            with_reducible rfl
           rotate_left
           ·simp only [Act.put, List.setIfInBounds_toArray, List.set_cons_zero, List.set_cons_succ, i64_w, i32_w]
            rfl
           refine done_ (done_of HT_.out (by kernel_rfl)) ?_
           try go_wp2
           go_roundg kj16
           case measure => have := HK1.out; have := HJ16.out; omega
           case rel => exact ⟨(wrap64 (x10_1 + 1)), (x277000_1), (x277001_1), (.slice Ao38 x277000_1.length co38), (.slice Ao39 x277001_1.length co39), (by first | rfl | (simp; done) | (simp [*]; done)), H', ⟨by have := HK1.out; have := HJ16.out; omega⟩, ⟨by (with_reducible repeat (first | apply Kd.R_alloc | apply Kd.R_drewN | apply Kd.R_drew)); exact Kd.R_mono (Kd.R_far (p := ⟨gb287, 1, none⟩) (Kd.R_far (p := ⟨gb287, 0, none⟩) (Kd.R_types HO_7.out BK287.out (by decide)) (fun _ hk => hk.2) (.slice Ao44 t279.length co44)) (fun _ hk => hk.2) (.slice Ao46 t282.length co46)) (fun _ hk => trivial)⟩, ⟨by (with_reducible repeat (first | apply Kd.V_alloc | apply Kd.V_drewN | apply Kd.V_drew)); exact Kd.V_mono (Kd.V_far (p := ⟨gb287, 1, none⟩) (Kd.V_far (p := ⟨gb287, 0, none⟩) (Kd.V_mono HO_277000.out (fun k_ hk => (⟨hk, hk.2.2⟩ : _ ∧ k_ ≠ gb287))) (fun _ hk => hk.2) (.slice Ao44 t279.length co44)) (fun _ hk => hk.2) (.slice Ao46 t282.length co46)) (fun _ hk => ⟨hk.1.1, hk.1.2.1⟩)⟩, ⟨by (with_reducible repeat (first | apply Kd.V_alloc | apply Kd.V_drewN | apply Kd.V_drew)); exact Kd.V_mono (Kd.V_far (p := ⟨gb287, 1, none⟩) (Kd.V_far (p := ⟨gb287, 0, none⟩) (Kd.V_mono HO_277001.out (fun k_ hk => (⟨hk, hk.2.2⟩ : _ ∧ k_ ≠ gb287))) (fun _ hk => hk.2) (.slice Ao44 t279.length co44)) (fun _ hk => hk.2) (.slice Ao46 t282.length co46)) (fun _ hk => ⟨hk.1.1, hk.1.2.1⟩)⟩, ⟨by (with_reducible repeat (first | refine blk_drewN ?_ _ | refine blk_drew ?_ | refine blk_alloc ?_ _)); refine blk_far ?_ NB276_287.out _; (with_reducible repeat (first | refine blk_drewN ?_ _ | refine blk_drew ?_ | refine blk_alloc ?_ _)); refine blk_far ?_ NB276_287.out _; (with_reducible repeat (first | refine blk_drewN ?_ _ | refine blk_drew ?_ | refine blk_alloc ?_ _)); exact BK276.out⟩, ⟨by repeat (first | (with_reducible first | exact HB.out | apply below_alloc | apply pw_below_drewN | apply below_drew1 | refine below_set ?_ GE276.out | refine below_set ?_ GE287.out) | exact HB.out)⟩⟩
        ·rw [if_neg c21] at H
         exact absurd H (by simp)
       ·rw [if_neg c20] at H
        exact absurd H (by simp)
      ·replace c19 := Bool.eq_false_iff.mpr c19
       subst c19
       have H1 : ((stopgatelaw04_From.f kj16 x277000_1 x277001_1).bind fun bt288 => ((stopgatelaw04_told.f kj16).bind fun t295 => (if t295 = true then (if (bt288.2.length : Int) = (t264.length : Int) then ((stopgateref03_Path.f kj16 t264 (wrap64 (Int.tmod (IntKind.u64.wrap (a1)) (IntKind.u64.wrap ((t264.length : Int)))))).bind fun t296 => (if 0 < (t296.length : Int) then (if 0 ≤ (rd t296 0) then (if (rd t296 0) < (bt288.1.length : Int) then (if (rd t296 0) < (bt288.2.length : Int) then (stopgatelaw04_CreditEdges.l1 kj16 (wrap64 (Int.tmod (IntKind.u64.wrap (a1)) (IntKind.u64.wrap ((t264.length : Int))))) t296 (wrap64 (((rd_T68 bt288.1 (rd t296 0)).f1) - (rd bt288.2 (rd t296 0)))) 0 1 x277000_1 x277001_1 bt288.1 bt288.2) else (none)) else (none)) else (none)) else (none))) else (none)) else (none)))) = some r := by rw [if_neg (show ¬ (false = true) by decide)] at H; exact H
       clear H
       have H := H1
       clear H1
       replace H := Option.bind_eq_some_iff.mp H
       obtain ⟨⟨t288, t291⟩, A480, H⟩ := H
       replace H : ((stopgatelaw04_told.f kj16).bind fun t295 => (if t295 = true then (if (t291.length : Int) = (t264.length : Int) then ((stopgateref03_Path.f kj16 t264 (wrap64 (Int.tmod (IntKind.u64.wrap (a1)) (IntKind.u64.wrap ((t264.length : Int)))))).bind fun t296 => (if 0 < (t296.length : Int) then (if 0 ≤ (rd t296 0) then (if (rd t296 0) < (t288.length : Int) then (if (rd t296 0) < (t291.length : Int) then (stopgatelaw04_CreditEdges.l1 kj16 (wrap64 (Int.tmod (IntKind.u64.wrap (a1)) (IntKind.u64.wrap ((t264.length : Int))))) t296 (wrap64 (((rd_T68 t288 (rd t296 0)).f1) - (rd t291 (rd t296 0)))) 0 1 x277000_1 x277001_1 t288 t291) else (none)) else (none)) else (none)) else (none))) else (none)) else (none))) = some r := H
       have A48 := Aside0.mk A480
       clear A480
       replace H := Option.bind_eq_some_iff.mp H
       obtain ⟨t295, A490, H⟩ := H
       replace H : (if t295 = true then (if (t291.length : Int) = (t264.length : Int) then ((stopgateref03_Path.f kj16 t264 (wrap64 (Int.tmod (IntKind.u64.wrap (a1)) (IntKind.u64.wrap ((t264.length : Int)))))).bind fun t296 => (if 0 < (t296.length : Int) then (if 0 ≤ (rd t296 0) then (if (rd t296 0) < (t288.length : Int) then (if (rd t296 0) < (t291.length : Int) then (stopgatelaw04_CreditEdges.l1 kj16 (wrap64 (Int.tmod (IntKind.u64.wrap (a1)) (IntKind.u64.wrap ((t264.length : Int))))) t296 (wrap64 (((rd_T68 t288 (rd t296 0)).f1) - (rd t291 (rd t296 0)))) 0 1 x277000_1 x277001_1 t288 t291) else (none)) else (none)) else (none)) else (none))) else (none)) else (none)) = some r := H
       have A49 := Aside0.mk A490
       clear A490
       by_cases c50 : t295 = true
       ·subst c50
        have H1 : (if (t291.length : Int) = (t264.length : Int) then ((stopgateref03_Path.f kj16 t264 (wrap64 (Int.tmod (IntKind.u64.wrap (a1)) (IntKind.u64.wrap ((t264.length : Int)))))).bind fun t296 => (if 0 < (t296.length : Int) then (if 0 ≤ (rd t296 0) then (if (rd t296 0) < (t288.length : Int) then (if (rd t296 0) < (t291.length : Int) then (stopgatelaw04_CreditEdges.l1 kj16 (wrap64 (Int.tmod (IntKind.u64.wrap (a1)) (IntKind.u64.wrap ((t264.length : Int))))) t296 (wrap64 (((rd_T68 t288 (rd t296 0)).f1) - (rd t291 (rd t296 0)))) 0 1 x277000_1 x277001_1 t288 t291) else (none)) else (none)) else (none)) else (none))) else (none)) = some r := by rw [if_pos rfl] at H; exact H
        clear H
        have H := H1
        clear H1
        by_cases c51 : (t291.length : Int) = (t264.length : Int)
        ·rw [if_pos c51] at H
         have c51b0 : ((t291.length : Int) == (t264.length : Int)) = true := beq_iff_eq.mpr c51
         have c51b1 : ((t291.length : Int) != (t264.length : Int)) = false := bne_eq_false_iff_eq.mpr c51
         have c51b2 : (t291.length == t264.length) = true := by first | simpa using c51 | (simp at c51 ⊢; omega)
         clear c51
         replace H := Option.bind_eq_some_iff.mp H
         obtain ⟨t296, A520, H⟩ := H
         replace H : (if 0 < (t296.length : Int) then (if 0 ≤ (rd t296 0) then (if (rd t296 0) < (t288.length : Int) then (if (rd t296 0) < (t291.length : Int) then (stopgatelaw04_CreditEdges.l1 kj16 (wrap64 (Int.tmod (IntKind.u64.wrap (a1)) (IntKind.u64.wrap ((t264.length : Int))))) t296 (wrap64 (((rd_T68 t288 (rd t296 0)).f1) - (rd t291 (rd t296 0)))) 0 1 x277000_1 x277001_1 t288 t291) else (none)) else (none)) else (none)) else (none)) = some r := H
         have A52 := Aside0.mk A520
         clear A520
         by_cases c53 : 0 < (t296.length : Int)
         ·rw [if_pos c53] at H
          have c53b0 : decide (0 < (t296.length : Int)) = true := decide_eq_true c53
          have c53b1 : decide (0 < t296.length) = true := decide_eq_true (by omega)
          clear c53
          by_cases c54 : 0 ≤ (rd t296 0)
          ·rw [if_pos c54] at H
           have c54b0 : decide (0 ≤ (rd t296 0)) = true := decide_eq_true c54
           clear c54
           by_cases c55 : (rd t296 0) < (t288.length : Int)
           ·rw [if_pos c55] at H
            have c55b0 : decide ((rd t296 0) < (t288.length : Int)) = true := decide_eq_true c55
            clear c55
            by_cases c56 : (rd t296 0) < (t291.length : Int)
            ·rw [if_pos c56] at H
             have c56b0 : decide ((rd t296 0) < (t291.length : Int)) = true := decide_eq_true c56
             clear c56
             have H' := Aside0.mk H
             clear H
             have hcz57_0 : wc.cell? ⟨gb276, 0, none⟩ = some (u277000) := (blk_cell BK276.out 0).trans rfl
             have hcz57_1 : wc.cell? ⟨gb276, 1, none⟩ = some (u277001) := (blk_cell BK276.out 1).trans rfl
             have hfz57_0 := blk_frozen BK276.out 0
             have hfz57_1 := blk_frozen BK276.out 1
             obtain ⟨Ao58, co58, eo58⟩ := Kd.V_slice HO_277000.out
             subst eo58
             obtain ⟨Ao59, co59, eo59⟩ := Kd.V_slice HO_277001.out
             subst eo59
             try go_wp2_with (first | ((with_reducible refine gate_callee (f := 49) rfl ?_); refine goesL_ (some 74) rfl rfl Try.func49 (by kernel_rfl) rfl #[.agg #[.slice Ao58 x277000_1.length co58, .slice Ao59 x277001_1.length co59]] rfl (by (try simp only [List.map_toArray, List.map_cons, List.map_nil]); first | done | rfl | (simp only [List.length_drop, List.length_take]; rfl)) ?_; (with_reducible refine (stopgatelaw04_From.calls kj16 _ _ x277000_1 _ _ x277001_1 t288 t291 _ ?side1 ?side2 ?side3 ?side4 A48.out).mono ?_); (case side1 => repeat (first | exact (Kd.V_reads' HO_277000.out).2.2 | (with_reducible refine Kd.C_alloc ?_ _) | (with_reducible refine Kd.C_drewN ?_ _) | (with_reducible refine Kd.C_drew ?_))); (case side2 => exact (Kd.V_reads' HO_277000.out).2.1); (case side3 => repeat (first | exact (Kd.V_reads' HO_277001.out).2.2 | (with_reducible refine Kd.C_alloc ?_ _) | (with_reducible refine Kd.C_drewN ?_ _) | (with_reducible refine Kd.C_drew ?_))); (case side4 => exact (Kd.V_reads' HO_277001.out).2.1); rintro e w60 ⟨v289, v292, rfl, ho0, ho1, hb⟩; refine ⟨_, rfl, ?_⟩; have n0_ := Aside0.mk (Kd.R_elder' (by (with_reducible repeat (first | apply Kd.R_alloc | apply Kd.R_drewN | apply Kd.R_drew)); exact HO_7.out) (Kd.R_base ho0) hb); have n1_ := Aside0.mk (Kd.V_mono (Kd.V_told (Kd.V_told (Kd.V_old (by (with_reducible repeat (first | apply Kd.V_alloc | apply Kd.V_drewN | apply Kd.V_drew)); exact HO_277000.out) hb) (Kd.R_base ho0)) (Kd.R_base ho1)) (fun _ h_ => h_.1)); have n2_ := Aside0.mk (Kd.V_mono (Kd.V_told (Kd.V_told (Kd.V_old (by (with_reducible repeat (first | apply Kd.V_alloc | apply Kd.V_drewN | apply Kd.V_drew)); exact HO_277001.out) hb) (Kd.R_base ho0)) (Kd.R_base ho1)) (fun _ h_ => h_.1)); have n3_ := Aside0.mk (Kd.R_lower (Kd.R_new' ho0 (Kd.R_lt (by (with_reducible repeat (first | apply Kd.R_alloc | apply Kd.R_drewN | apply Kd.R_drew)); exact HO_7.out))) (below_size (by repeat (first | (with_reducible first | exact HB.out | apply below_alloc | apply pw_below_drewN | apply below_drew1 | refine below_set ?_ GE276.out) | exact HB.out)))); have n4_ := Aside0.mk (Kd.R_lower ho1 (below_size (by repeat (first | (with_reducible first | exact HB.out | apply below_alloc | apply pw_below_drewN | apply below_drew1 | refine below_set ?_ GE276.out) | exact HB.out)))); have n5_ := Aside0.mk (blk_below (g := gb276) (o := .cells #[.slice Ao58 x277000_1.length co58, .slice Ao59 x277001_1.length co59] 61 (0, 0)) (by (with_reducible repeat (first | refine blk_drewN ?_ _ | refine blk_drew ?_ | refine blk_alloc ?_ _)); exact BK276.out) hb); have n6_ := Aside0.mk (below_step (by repeat (first | (with_reducible first | exact HB.out | apply below_alloc | apply pw_below_drewN | apply below_drew1 | refine below_set ?_ GE276.out) | exact HB.out)) hb); clear HO_7; clear HO_277000; clear HO_277001; clear BK276; clear HB; have HO_7 := n0_; have HO_277000 := n1_; have HO_277001 := n2_; have HO290 := n3_; have HO293 := n4_; have BK276 := n5_; have HB := n6_; clear n0_ n1_ n2_ n3_ n4_ n5_ n6_; (try clear hb); (try clear hb2); (try clear hk); (try clear hi); (try clear ho0); (try clear ho1)) | ((with_reducible refine gate_dst (N := 14) rfl ?_); (try (refine gate_guard (by rfl) ?_; dsimp only)); refine box_event ?hg (N := 14) ?hd (cs := #[.slice none 0 0, .slice none 0 0]) (t := 58) ?hr ?_; (case hd => rfl); (case hg => rfl); (case hr => first | (go_simp; done) | (go_simp; rfl)); intro gb294 hg w61 hbox hb; have n0_ := Aside0.mk (Kd.R_below (by (with_reducible repeat (first | apply Kd.R_alloc | apply Kd.R_drewN | apply Kd.R_drew)); exact HO_7.out) hb); have n1_ := Aside0.mk (Kd.V_below (Kd.V_elderB (by (with_reducible repeat (first | apply Kd.V_alloc | apply Kd.V_drewN | apply Kd.V_drew)); exact HO_277000.out) gb294 (Nat.le_of_eq hg.symm)) hb); have n2_ := Aside0.mk (Kd.V_below (Kd.V_elderB (by (with_reducible repeat (first | apply Kd.V_alloc | apply Kd.V_drewN | apply Kd.V_drew)); exact HO_277001.out) gb294 (Nat.le_of_eq hg.symm)) hb); have n3_ := Aside0.mk (Kd.R_below (by (with_reducible repeat (first | apply Kd.R_alloc | apply Kd.R_drewN | apply Kd.R_drew)); exact HO290.out) hb); have n4_ := Aside0.mk (Kd.R_below (by (with_reducible repeat (first | apply Kd.R_alloc | apply Kd.R_drewN | apply Kd.R_drew)); exact HO293.out) hb); have n5_ := Aside0.mk (blk_below (g := gb276) (o := .cells #[.slice Ao58 x277000_1.length co58, .slice Ao59 x277001_1.length co59] 61 (0, 0)) (by (with_reducible repeat (first | refine blk_drewN ?_ _ | refine blk_drew ?_ | refine blk_alloc ?_ _)); exact BK276.out) hb); have n6_ := Aside0.mk (below_step (by repeat (first | (with_reducible first | exact HB.out | apply below_alloc | apply pw_below_drewN | apply below_drew1 | refine below_set ?_ GE276.out) | exact HB.out)) hb); have n7_ := Aside0.mk (hbox); have n8_ := Aside0.mk ((by rw [hg]; exact (below_size (by repeat (first | (with_reducible first | exact HB.out | apply below_alloc | apply pw_below_drewN | apply below_drew1 | refine below_set ?_ GE276.out) | exact HB.out))) : w.heap.size ≤ gb294)); have n9_ := Aside0.mk ((by rw [hg]; exact (below_size (by repeat (first | (with_reducible first | exact HB.out | apply below_alloc | apply pw_below_drewN | apply below_drew1 | refine below_set ?_ GE276.out) | exact HB.out))) : w.heap.size ≤ gb294)); have n10_ := Aside0.mk ((by rw [hg]; exact Nat.ne_of_lt (blk_lt (g := gb276) (o := .cells #[.slice Ao58 x277000_1.length co58, .slice Ao59 x277001_1.length co59] 61 (0, 0)) (by (with_reducible repeat (first | refine blk_drewN ?_ _ | refine blk_drew ?_ | refine blk_alloc ?_ _)); exact BK276.out)) : gb276 ≠ gb294)); have n11_ := Aside0.mk ((by rw [hg]; exact Nat.ne_of_gt (blk_lt (g := gb276) (o := .cells #[.slice Ao58 x277000_1.length co58, .slice Ao59 x277001_1.length co59] 61 (0, 0)) (by (with_reducible repeat (first | refine blk_drewN ?_ _ | refine blk_drew ?_ | refine blk_alloc ?_ _)); exact BK276.out)) : gb294 ≠ gb276)); clear HO_7; clear HO_277000; clear HO_277001; clear HO290; clear HO293; clear BK276; clear HB; have HO_7 := n0_; have HO_277000 := n1_; have HO_277001 := n2_; have HO290 := n3_; have HO293 := n4_; have BK276 := n5_; have HB := n6_; have BK294 := n7_; have GW294 := n8_; have GE294 := n9_; have NB276_294 := n10_; have NB294_276 := n11_; clear n0_ n1_ n2_ n3_ n4_ n5_ n6_ n7_ n8_ n9_ n10_ n11_; clear hb hbox hg; obtain ⟨Ao62, co62, eo62⟩ := Kd.R_slice HO290.out; subst eo62; have hnb63 := NB294_276.out; have hnc63 := NB276_294.out; have hcz64_0 : w61.cell? ⟨gb294, 0, none⟩ = some (.slice none 0 0) := (blk_cell BK294.out 0).trans rfl; have hcz64_1 : w61.cell? ⟨gb294, 1, none⟩ = some (.slice none 0 0) := (blk_cell BK294.out 1).trans rfl; have hfz64_0 := blk_frozen BK294.out 0; have hfz64_1 := blk_frozen BK294.out 1; obtain ⟨Ao65, co65, eo65⟩ := Kd.R_slice HO293.out; subst eo65) | ((with_reducible refine gate_callee (f := 43) rfl ?_); refine goesL_ (some 75) rfl rfl Try.func43 (by kernel_rfl) rfl #[] rfl (by (try simp only [List.map_toArray, List.map_cons, List.map_nil]); first | done | rfl | (simp only [List.length_drop, List.length_take]; rfl)) ?_; (with_reducible refine (stopgatelaw04_told.calls kj16  true _ A49.out).mono ?_); rintro e w66 ⟨rfl, hb⟩; refine ⟨_, rfl, ?_⟩; have n0_ := Aside0.mk (Kd.R_below (by (with_reducible repeat (first | apply Kd.R_alloc | apply Kd.R_drewN | apply Kd.R_drew)); exact (Kd.R_mono (Kd.R_far (p := ⟨gb294, 1, none⟩) (Kd.R_far (p := ⟨gb294, 0, none⟩) (Kd.R_types HO_7.out BK294.out (by decide)) (fun _ hk => hk.2) (.slice Ao62 t288.length co62)) (fun _ hk => hk.2) (.slice Ao65 t291.length co65)) (fun _ h_ => h_.1))) hb); have n1_ := Aside0.mk (Kd.V_below (by (with_reducible repeat (first | apply Kd.V_alloc | apply Kd.V_drewN | apply Kd.V_drew)); exact (Kd.V_mono (Kd.V_far (p := ⟨gb294, 1, none⟩) (Kd.V_far (p := ⟨gb294, 0, none⟩) (Kd.V_mono HO_277000.out (fun k_ hk => (⟨hk, hk.2⟩ : _ ∧ k_ ≠ gb294))) (fun _ hk => hk.2) (.slice Ao62 t288.length co62)) (fun _ hk => hk.2) (.slice Ao65 t291.length co65)) (fun _ h_ => h_.1))) hb); have n2_ := Aside0.mk (Kd.V_below (by (with_reducible repeat (first | apply Kd.V_alloc | apply Kd.V_drewN | apply Kd.V_drew)); exact (Kd.V_mono (Kd.V_far (p := ⟨gb294, 1, none⟩) (Kd.V_far (p := ⟨gb294, 0, none⟩) (Kd.V_mono HO_277001.out (fun k_ hk => (⟨hk, hk.2⟩ : _ ∧ k_ ≠ gb294))) (fun _ hk => hk.2) (.slice Ao62 t288.length co62)) (fun _ hk => hk.2) (.slice Ao65 t291.length co65)) (fun _ h_ => h_.1))) hb); have n3_ := Aside0.mk (Kd.R_below (by (with_reducible repeat (first | apply Kd.R_alloc | apply Kd.R_drewN | apply Kd.R_drew)); exact (Kd.R_mono (Kd.R_far (p := ⟨gb294, 1, none⟩) (Kd.R_far (p := ⟨gb294, 0, none⟩) (Kd.R_types HO290.out BK294.out (by decide)) (fun _ hk => hk.2) (.slice Ao62 t288.length co62)) (fun _ hk => hk.2) (.slice Ao65 t291.length co65)) (fun _ h_ => h_.1))) hb); have n4_ := Aside0.mk (Kd.R_below (by (with_reducible repeat (first | apply Kd.R_alloc | apply Kd.R_drewN | apply Kd.R_drew)); exact (Kd.R_mono (Kd.R_far (p := ⟨gb294, 1, none⟩) (Kd.R_far (p := ⟨gb294, 0, none⟩) (Kd.R_types HO293.out BK294.out (by decide)) (fun _ hk => hk.2) (.slice Ao62 t288.length co62)) (fun _ hk => hk.2) (.slice Ao65 t291.length co65)) (fun _ h_ => h_.1))) hb); have n5_ := Aside0.mk (blk_below (g := gb276) (o := .cells #[.slice Ao58 x277000_1.length co58, .slice Ao59 x277001_1.length co59] 61 (0, 0)) (by (with_reducible repeat (first | refine blk_drewN ?_ _ | refine blk_drew ?_ | refine blk_alloc ?_ _)); refine blk_far ?_ NB276_294.out _; (with_reducible repeat (first | refine blk_drewN ?_ _ | refine blk_drew ?_ | refine blk_alloc ?_ _)); refine blk_far ?_ NB276_294.out _; (with_reducible repeat (first | refine blk_drewN ?_ _ | refine blk_drew ?_ | refine blk_alloc ?_ _)); exact BK276.out) hb); have n6_ := Aside0.mk (blk_below (g := gb294) (o := .cells #[.slice Ao62 t288.length co62, .slice Ao65 t291.length co65] 58 (0, 0)) (by (with_reducible repeat (first | refine blk_drewN ?_ _ | refine blk_drew ?_ | refine blk_alloc ?_ _)); refine blk_put (cs := #[.slice Ao62 t288.length co62, .slice none 0 0]) ?_ 1 _ rfl; (with_reducible repeat (first | refine blk_drewN ?_ _ | refine blk_drew ?_ | refine blk_alloc ?_ _)); refine blk_put (cs := #[.slice none 0 0, .slice none 0 0]) ?_ 0 _ rfl; (with_reducible repeat (first | refine blk_drewN ?_ _ | refine blk_drew ?_ | refine blk_alloc ?_ _)); exact BK294.out) hb); have n7_ := Aside0.mk (below_step (by repeat (first | (with_reducible first | exact HB.out | apply below_alloc | apply pw_below_drewN | apply below_drew1 | refine below_set ?_ GE276.out | refine below_set ?_ GE294.out) | exact HB.out)) hb); clear HO_7; clear HO_277000; clear HO_277001; clear HO290; clear HO293; clear BK276; clear BK294; clear HB; have HO_7 := n0_; have HO_277000 := n1_; have HO_277001 := n2_; have HO290 := n3_; have HO293 := n4_; have BK276 := n5_; have BK294 := n6_; have HB := n7_; clear n0_ n1_ n2_ n3_ n4_ n5_ n6_ n7_; (try clear hb); (try clear hb2); (try clear hk); (try clear hi); have hcz67_0 : w66.cell? ⟨gb294, 0, none⟩ = some (.slice Ao62 t288.length co62) := (blk_cell BK294.out 0).trans rfl; have hcz67_1 : w66.cell? ⟨gb294, 1, none⟩ = some (.slice Ao65 t291.length co65) := (blk_cell BK294.out 1).trans rfl; have hfz67_0 := blk_frozen BK294.out 0; have hfz67_1 := blk_frozen BK294.out 1) | ((with_reducible refine gate_callee (f := 31) rfl ?_); refine goesL_ (some 87) rfl rfl Try.func31 (by kernel_rfl) rfl #[.slice Ao9 t264.length co9, .int .i64 (wrap64 (Int.tmod (IntKind.u64.wrap (a1)) (IntKind.u64.wrap ((t264.length : Int)))))] rfl (by (try simp only [List.map_toArray, List.map_cons, List.map_nil]); first | done | rfl | (simp only [List.length_drop, List.length_take]; rfl)) ?_; (with_reducible refine (stopgateref03_Path.calls kj16 _ _ t264 (wrap64 (Int.tmod (IntKind.u64.wrap (a1)) (IntKind.u64.wrap ((t264.length : Int))))) t296 _ ?side1 ?side2 A52.out).mono ?_); (case side1 => repeat (first | exact (Kd.R_reads' HO_7.out).2.2 | (with_reducible refine Kd.C_alloc ?_ _) | (with_reducible refine Kd.C_drewN ?_ _) | (with_reducible refine Kd.C_drew ?_))); (case side2 => exact (Kd.R_reads' HO_7.out).2.1); rintro e w68 ⟨v297, rfl, ho0, hb⟩; refine ⟨_, rfl, ?_⟩; have n0_ := Aside0.mk (Kd.R_below (by (with_reducible repeat (first | apply Kd.R_alloc | apply Kd.R_drewN | apply Kd.R_drew)); exact HO_7.out) hb); have n1_ := Aside0.mk (Kd.V_elder' (by (with_reducible repeat (first | apply Kd.V_alloc | apply Kd.V_drewN | apply Kd.V_drew)); exact HO_277000.out) (Kd.R_base ho0) hb); have n2_ := Aside0.mk (Kd.V_elder' (by (with_reducible repeat (first | apply Kd.V_alloc | apply Kd.V_drewN | apply Kd.V_drew)); exact HO_277001.out) (Kd.R_base ho0) hb); have n3_ := Aside0.mk (Kd.R_below (by (with_reducible repeat (first | apply Kd.R_alloc | apply Kd.R_drewN | apply Kd.R_drew)); exact HO290.out) hb); have n4_ := Aside0.mk (Kd.R_below (by (with_reducible repeat (first | apply Kd.R_alloc | apply Kd.R_drewN | apply Kd.R_drew)); exact HO293.out) hb); have n5_ := Aside0.mk (Kd.R_lower ho0 (below_size (by repeat (first | (with_reducible first | exact HB.out | apply below_alloc | apply pw_below_drewN | apply below_drew1 | refine below_set ?_ GE276.out | refine below_set ?_ GE294.out) | exact HB.out)))); have n6_ := Aside0.mk (blk_below (g := gb276) (o := .cells #[.slice Ao58 x277000_1.length co58, .slice Ao59 x277001_1.length co59] 61 (0, 0)) (by (with_reducible repeat (first | refine blk_drewN ?_ _ | refine blk_drew ?_ | refine blk_alloc ?_ _)); exact BK276.out) hb); have n7_ := Aside0.mk (blk_below (g := gb294) (o := .cells #[.slice Ao62 t288.length co62, .slice Ao65 t291.length co65] 58 (0, 0)) (by (with_reducible repeat (first | refine blk_drewN ?_ _ | refine blk_drew ?_ | refine blk_alloc ?_ _)); exact BK294.out) hb); have n8_ := Aside0.mk (below_step (by repeat (first | (with_reducible first | exact HB.out | apply below_alloc | apply pw_below_drewN | apply below_drew1 | refine below_set ?_ GE276.out | refine below_set ?_ GE294.out) | exact HB.out)) hb); clear HO_7; clear HO_277000; clear HO_277001; clear HO290; clear HO293; clear BK276; clear BK294; clear HB; have HO_7 := n0_; have HO_277000 := n1_; have HO_277001 := n2_; have HO290 := n3_; have HO293 := n4_; have HO298 := n5_; have BK276 := n6_; have BK294 := n7_; have HB := n8_; clear n0_ n1_ n2_ n3_ n4_ n5_ n6_ n7_ n8_; (try clear hb); (try clear hb2); (try clear hk); (try clear hi); (try clear ho0)))
             have n0_ := Aside0.mk (Kd.R_drew HO_7.out)
             have n1_ := Aside0.mk (Kd.V_drew HO_277000.out)
             have n2_ := Aside0.mk (Kd.V_drew HO_277001.out)
             have n3_ := Aside0.mk (Kd.R_drew HO290.out)
             have n4_ := Aside0.mk (Kd.R_drew HO293.out)
             have n5_ := Aside0.mk (Kd.R_drew HO298.out)
             have n6_ := Aside0.mk (blk_drew BK276.out)
             have n7_ := Aside0.mk (blk_drew BK294.out)
             have n8_ := Aside0.mk (below_drew1 HB.out)
             clear HO_7
             clear HO_277000
             clear HO_277001
             clear HO290
             clear HO293
             clear HO298
             clear BK276
             clear BK294
             clear HB
             have HO_7 := n0_
             have HO_277000 := n1_
             have HO_277001 := n2_
             have HO290 := n3_
             have HO293 := n4_
             have HO298 := n5_
             have BK276 := n6_
             have BK294 := n7_
             have HB := n8_
             clear n0_ n1_ n2_ n3_ n4_ n5_ n6_ n7_ n8_
             obtain ⟨Ao70, co70, eo70⟩ := Kd.R_slice HO298.out
             (first | subst eo70 | (injection eo70 with f1_ f2_ f3_; have f4_ := f1_.symm; have f5_ := f3_.symm; clear f1_ f2_ f3_; subst f4_; subst f5_))
             have p299 : 0 ≤ (0 : Int) := (by omega)
             have q299 : 0 < (t296.length : Int) := of_decide_eq_true (by first | (with_reducible assumption) | assumption)
             obtain ⟨ad299, e299, hx299_0⟩ := Kd.at_int (Kd.R_reads' HO298.out).2.2 0 p299 q299
             cases e299
             have qi299 : (0 < t296.length) = True := eq_true (by omega)
             (try rw [show ((0 : Int)).toNat = 0 from rfl] at hx299_0)
             (try rw [Addr.add_zero'] at hx299_0)
             replace p299 := eq_true p299
             replace q299 := eq_true q299
             have p300 : 0 ≤ ((rd t296 0) : Int) := of_decide_eq_true (by first | (with_reducible assumption) | assumption)
             have q300 : (rd t296 0) < (t288.length : Int) := of_decide_eq_true (by first | (with_reducible assumption) | assumption)
             obtain ⟨ad300, e300, hx300_0, hx300_1⟩ := at_T68 (Kd.R_reads' HO290.out).2.2 (rd t296 0) p300 q300
             cases e300
             replace p300 := eq_true p300
             replace q300 := eq_true q300
             have p301 : 0 ≤ (0 : Int) := (by omega)
             have q301 : 0 < (t296.length : Int) := of_decide_eq_true (by first | (with_reducible assumption) | assumption)
             obtain ⟨ad301, e301, hx301_0⟩ := Kd.at_int (Kd.R_reads' HO298.out).2.2 0 p301 q301
             obtain rfl : ad299 = ad301 := (by injection e301)
             have qi301 : (0 < t296.length) = True := eq_true (by omega)
             (try rw [show ((0 : Int)).toNat = 0 from rfl] at hx301_0)
             (try rw [Addr.add_zero'] at hx301_0)
             replace p301 := eq_true p301
             replace q301 := eq_true q301
             have p302 : 0 ≤ ((rd t296 0) : Int) := of_decide_eq_true (by first | (with_reducible assumption) | assumption)
             have q302 : (rd t296 0) < (t291.length : Int) := of_decide_eq_true (by first | (with_reducible assumption) | assumption)
             obtain ⟨ad302, e302, hx302_0⟩ := Kd.at_int (Kd.R_reads' HO293.out).2.2 (rd t296 0) p302 q302
             cases e302
             replace p302 := eq_true p302
             replace q302 := eq_true q302
             refine start_ (n := 18) (S := fun w' => w'.cell? ⟨gb294, 0, none⟩ = some (.slice (some ad300) t288.length co62) ∧ w'.cell? ⟨gb294, 1, none⟩ = some (.slice (some ad302) t291.length co65) ∧ w'.cell? ad299 = some (.int .i64 (rd t296 0)) ∧ w'.cell? (ad300.add (((rd t296 0)).toNat * 2)) = some (.int .i64 ((rd_T68 t288 (rd t296 0)).f0)) ∧ w'.cell? ⟨(ad300.add (((rd t296 0)).toNat * 2)).block, (ad300.add (((rd t296 0)).toNat * 2)).off + 1, none⟩ = some (.int .i64 ((rd_T68 t288 (rd t296 0)).f1)) ∧ w'.cell? ad299 = some (.int .i64 (rd t296 0)) ∧ w'.cell? (ad302.add ((rd t296 0)).toNat) = some (.int .i64 (rd t291 (rd t296 0)))) (ds := []) #[false, false, false, false, false, false, false, false, false, false, false, false, false, false, false, false, false, false] (by kernel_rfl) rfl rfl ⟨(blk_cell BK294.out 0).trans rfl, (blk_cell BK294.out 1).trans rfl, hx299_0, hx300_0, hx300_1, hx301_0, hx302_0⟩ (fun hHeld => ?_); refine with_tabW stopgatelaw04_CreditEdges.tab14 stopgatelaw04_CreditEdges.bits14 (fun HT_ HW_ => ?_)
             generalize w68.drew = w69 at HO_7 HO_277000 HO_277001 HO290 HO293 HO298 BK276 BK294 HB hx299_0 hx300_0 hx300_1 hx301_0 hx302_0 hHeld ⊢
             refine pure_ (i := 0) (N := some 88) (v := ?_) (a' := ?_) #[true, false, false, false, false, false, false, false, false, false, false, false, false, false, false, false, false, false] rfl rfl (any_of HT_.out (by kernel_rfl)) (fun _ _ _ h => h) (Or.inl ⟨by rfl, ?_⟩) ?_ ?_
             rotate_left
             ·intro w'
              go_simp
              with_reducible rfl
             rotate_left
             ·simp only [Act.put, List.setIfInBounds_toArray, List.set_cons_zero, List.set_cons_succ, i64_w, i32_w]
              rfl
             refine pure_ (i := 2) (N := some 90) (v := ?_) (a' := ?_) #[true, false, true, false, false, false, false, false, false, false, false, false, false, false, false, false, false, false] rfl rfl (any_of HT_.out (by kernel_rfl)) (fun _ _ _ h => h) (Or.inl ⟨by rfl, ?_⟩) ?_ ?_
             rotate_left
             ·intro w'
              go_simp
              with_reducible rfl
             rotate_left
             ·simp only [Act.put, List.setIfInBounds_toArray, List.set_cons_zero, List.set_cons_succ, i64_w, i32_w]
              rfl
             refine pure_ (i := 3) (N := some 91) (v := ?_) (a' := ?_) #[true, false, true, true, false, false, false, false, false, false, false, false, false, false, false, false, false, false] rfl rfl (any_of HT_.out (by kernel_rfl)) (fun _ _ _ h => h) (Or.inl ⟨by rfl, ?_⟩) ?_ ?_
             rotate_left
             ·intro w'
              go_simp
              with_reducible rfl
             rotate_left
             ·simp only [Act.put, List.setIfInBounds_toArray, List.set_cons_zero, List.set_cons_succ, i64_w, i32_w]
              rfl
             refine pure_ (i := 8) (N := some 96) (v := ?_) (a' := ?_) #[true, false, true, true, false, false, false, false, true, false, false, false, false, false, false, false, false, false] rfl rfl (any_of HT_.out (by kernel_rfl)) (fun _ _ _ h => h) (Or.inl ⟨by rfl, ?_⟩) ?_ ?_
             rotate_left
             ·intro w'
              go_simp
              with_reducible rfl
             rotate_left
             ·simp only [Act.put, List.setIfInBounds_toArray, List.set_cons_zero, List.set_cons_succ, i64_w, i32_w]
              rfl
             refine pure_ (i := 10) (N := some 98) (v := ?_) (a' := ?_) #[true, false, true, true, false, false, false, false, true, false, true, false, false, false, false, false, false, false] rfl rfl (any_of HT_.out (by kernel_rfl)) (fun _ _ _ h => h) (Or.inl ⟨by rfl, ?_⟩) ?_ ?_
             rotate_left
             ·intro w'
              go_simp
              with_reducible rfl
             rotate_left
             ·simp only [Act.put, List.setIfInBounds_toArray, List.set_cons_zero, List.set_cons_succ, i64_w, i32_w]
              rfl
             refine pure_ (i := 11) (N := some 99) (v := ?_) (a' := ?_) #[true, false, true, true, false, false, false, false, true, false, true, true, false, false, false, false, false, false] rfl rfl (any_of HT_.out (by kernel_rfl)) (fun _ _ _ h => h) (Or.inl ⟨by rfl, ?_⟩) ?_ ?_
             rotate_left
             ·intro w'
              go_simp
              with_reducible rfl
             rotate_left
             ·simp only [Act.put, List.setIfInBounds_toArray, List.set_cons_zero, List.set_cons_succ, i64_w, i32_w]
              rfl
             refine take_ (i := 1) (N := some 89) (v := ?_) (a' := ?_) #[true, true, true, true, false, false, false, false, true, false, true, true, false, false, false, false, false, false] rfl rfl (take_ofW HT_.out HW_.out (by kernel_rfl)) (fun _ _ _ h => h) (Or.inl ⟨by rfl, ?_⟩) hHeld ?_ ?_
             rotate_left
             ·rintro w' ⟨s0, s1, s2, s3, s4, s5, s6⟩
              go_simp
              with_reducible rfl
             rotate_left
             ·simp only [Act.put, List.setIfInBounds_toArray, List.set_cons_zero, List.set_cons_succ, i64_w, i32_w]
              rfl
             refine take_ (i := 4) (N := some 92) (v := ?_) (a' := ?_) #[true, true, true, true, true, false, false, false, true, false, true, true, false, false, false, false, false, false] rfl rfl (take_ofW HT_.out HW_.out (by kernel_rfl)) (fun _ _ _ h => h) (Or.inl ⟨by rfl, ?_⟩) hHeld ?_ ?_
             rotate_left
             ·rintro w' ⟨s0, s1, s2, s3, s4, s5, s6⟩
              go_simp
              with_reducible rfl
             rotate_left
             ·simp only [Act.put, List.setIfInBounds_toArray, List.set_cons_zero, List.set_cons_succ, i64_w, i32_w]
              rfl
             refine pure_ (i := 5) (N := some 93) (v := ?_) (a' := ?_) #[true, true, true, true, true, true, false, false, true, false, true, true, false, false, false, false, false, false] rfl rfl (any_of HT_.out (by kernel_rfl)) (fun _ _ _ h => h) (Or.inl ⟨by rfl, ?_⟩) ?_ ?_
             rotate_left
             ·intro w'
              go_simp
              with_reducible rfl
             rotate_left
             ·simp only [Act.put, List.setIfInBounds_toArray, List.set_cons_zero, List.set_cons_succ, i64_w, i32_w]
              rfl
             refine pure_ (i := 6) (N := some 94) (v := ?_) (a' := ?_) #[true, true, true, true, true, true, true, false, true, false, true, true, false, false, false, false, false, false] rfl rfl (any_of HT_.out (by kernel_rfl)) (fun _ _ _ h => h) (Or.inl ⟨by rfl, ?_⟩) ?_ ?_
             rotate_left
             ·intro w'
              go_simp
              with_reducible rfl
             rotate_left
             ·simp only [Act.put, List.setIfInBounds_toArray, List.set_cons_zero, List.set_cons_succ, i64_w, i32_w]
              rfl
             refine take_ (i := 7) (N := some 95) (v := ?_) (a' := ?_) #[true, true, true, true, true, true, true, true, true, false, true, true, false, false, false, false, false, false] rfl rfl (take_ofW HT_.out HW_.out (by kernel_rfl)) (fun _ _ _ h => h) (Or.inl ⟨by rfl, ?_⟩) hHeld ?_ ?_
             rotate_left
             ·rintro w' ⟨s0, s1, s2, s3, s4, s5, s6⟩
              go_simp
              with_reducible rfl
             rotate_left
             ·simp only [Act.put, List.setIfInBounds_toArray, List.set_cons_zero, List.set_cons_succ, i64_w, i32_w]
              rfl
             refine take_ (i := 9) (N := some 97) (v := ?_) (a' := ?_) #[true, true, true, true, true, true, true, true, true, true, true, true, false, false, false, false, false, false] rfl rfl (take_ofW HT_.out HW_.out (by kernel_rfl)) (fun _ _ _ h => h) (Or.inl ⟨by rfl, ?_⟩) hHeld ?_ ?_
             rotate_left
             ·rintro w' ⟨s0, s1, s2, s3, s4, s5, s6⟩
              go_simp
              with_reducible rfl
             rotate_left
             ·simp only [Act.put, List.setIfInBounds_toArray, List.set_cons_zero, List.set_cons_succ, i64_w, i32_w]
              rfl
             refine take_ (i := 12) (N := some 100) (v := ?_) (a' := ?_) #[true, true, true, true, true, true, true, true, true, true, true, true, true, false, false, false, false, false] rfl rfl (take_ofW HT_.out HW_.out (by kernel_rfl)) (fun _ _ _ h => h) (Or.inl ⟨by rfl, ?_⟩) hHeld ?_ ?_
             rotate_left
             ·rintro w' ⟨s0, s1, s2, s3, s4, s5, s6⟩
              go_simp
              with_reducible rfl
             rotate_left
             ·simp only [Act.put, List.setIfInBounds_toArray, List.set_cons_zero, List.set_cons_succ, i64_w, i32_w]
              rfl
             refine pure_ (i := 13) (N := some 101) (v := ?_) (a' := ?_) #[true, true, true, true, true, true, true, true, true, true, true, true, true, true, false, false, false, false] rfl rfl (any_of HT_.out (by kernel_rfl)) (fun _ _ _ h => h) (Or.inl ⟨by rfl, ?_⟩) ?_ ?_
             rotate_left
             ·intro w'
              go_simp
              with_reducible rfl
             rotate_left
             ·simp only [Act.put, List.setIfInBounds_toArray, List.set_cons_zero, List.set_cons_succ, i64_w, i32_w]
              rfl
             refine take_ (i := 14) (N := some 102) (v := ?_) (a' := ?_) #[true, true, true, true, true, true, true, true, true, true, true, true, true, true, true, false, false, false] rfl rfl (take_ofW HT_.out HW_.out (by kernel_rfl)) (fun _ _ _ h => h) (Or.inl ⟨by rfl, ?_⟩) hHeld ?_ ?_
             rotate_left
             ·rintro w' ⟨s0, s1, s2, s3, s4, s5, s6⟩
              go_simp
              with_reducible rfl
             rotate_left
             ·simp only [Act.put, List.setIfInBounds_toArray, List.set_cons_zero, List.set_cons_succ, i64_w, i32_w]
              rfl
             refine pure_ (i := 15) (N := some 103) (v := ?_) (a' := ?_) #[true, true, true, true, true, true, true, true, true, true, true, true, true, true, true, true, false, false] rfl rfl (any_of HT_.out (by kernel_rfl)) (fun _ _ _ h => h) (Or.inl ⟨by rfl, ?_⟩) ?_ ?_
             rotate_left
             ·intro w'
              go_simp
              with_reducible rfl
             rotate_left
             ·simp only [Act.put, List.setIfInBounds_toArray, List.set_cons_zero, List.set_cons_succ, i64_w, i32_w]
              rfl
             refine pure_ (i := 16) (N := some 16) (v := ?_) (a' := ?_) #[true, true, true, true, true, true, true, true, true, true, true, true, true, true, true, true, true, false] rfl rfl (any_of HT_.out (by kernel_rfl)) (fun _ _ _ h => h) (Or.inl ⟨by rfl, ?_⟩) ?_ ?_
             rotate_left
             ·intro w'
              go_simp
              with_reducible rfl
             rotate_left
             ·simp only [Act.put, List.setIfInBounds_toArray, List.set_cons_zero, List.set_cons_succ, i64_w, i32_w]
              rfl
             refine pure_ (i := 17) (N := some 17) (v := ?_) (a' := ?_) #[true, true, true, true, true, true, true, true, true, true, true, true, true, true, true, true, true, true] rfl rfl (any_of HT_.out (by kernel_rfl)) (fun _ _ _ h => h) (Or.inl ⟨by rfl, ?_⟩) ?_ ?_
             rotate_left
             ·intro w'
              go_simp
              with_reducible rfl
             rotate_left
             ·simp only [Act.put, List.setIfInBounds_toArray, List.set_cons_zero, List.set_cons_succ, i64_w, i32_w]
              rfl
             refine done_ (done_of HT_.out (by kernel_rfl)) ?_
             try go_wp2
             go_loopg [16, 17, 18] kj16 (fun kq v16 v17 v18 w' => ∃ (x16_3 : Int) (x17_3 : Int) (x18_3 : Int), v16 = .int .i64 x16_3 ∧ v17 = .int .i64 x17_3 ∧ v18 = .int .i64 x18_3 ∧ Aside0 (stopgatelaw04_CreditEdges.l1 kq (wrap64 (Int.tmod (IntKind.u64.wrap (a1)) (IntKind.u64.wrap ((t264.length : Int))))) t296 x16_3 x17_3 x18_3 x277000_1 x277001_1 t288 t291 = some r) ∧ Aside0 (kq ≤ kj16) ∧ Aside0 (Kd.R (Kd.int .i64) 3 w' w.heap.size (fun _ => True) (.slice (some ad299) t296.length co70) t296) ∧ Aside0 (Kd.V k43 43 w' w.heap.size (fun k_ => some k_ ≠ ((.slice (some ad299) t296.length co70) : Value).ownBlock ∧ some k_ ≠ ((.slice (some ad300) t288.length co62) : Value).ownBlock ∧ some k_ ≠ ((.slice (some ad302) t291.length co65) : Value).ownBlock ∧ k_ ≠ gb276 ∧ k_ ≠ gb294) (.slice Ao58 x277000_1.length co58) x277000_1) ∧ Aside0 (Kd.V (Kd.int .i64) 2 w' w.heap.size (fun k_ => some k_ ≠ ((.slice (some ad299) t296.length co70) : Value).ownBlock ∧ some k_ ≠ ((.slice (some ad300) t288.length co62) : Value).ownBlock ∧ some k_ ≠ ((.slice (some ad302) t291.length co65) : Value).ownBlock ∧ k_ ≠ gb276 ∧ k_ ≠ gb294) (.slice Ao59 x277001_1.length co59) x277001_1) ∧ Aside0 (Kd.R k68 68 w' w.heap.size (fun _ => True) (.slice (some ad300) t288.length co62) t288) ∧ Aside0 (Kd.R (Kd.int .i64) 2 w' w.heap.size (fun _ => True) (.slice (some ad302) t291.length co65) t291) ∧ Aside0 (w'.heap[gb276]? = some (.cells #[(.slice Ao58 x277000_1.length co58), (.slice Ao59 x277001_1.length co59)] 61 (0, 0))) ∧ Aside0 (w'.heap[gb294]? = some (.cells #[(.slice (some ad300) t288.length co62), (.slice (some ad302) t291.length co65)] 58 (0, 0))) ∧ Aside0 (Below w.heap.size w w'))
             case atStart => exact ⟨(wrap64 (((rd_T68 t288 (rd t296 0)).f1) - (rd t291 (rd t296 0)))), (0), (1), (by first | rfl | (simp; done) | (simp [*]; done)), (by first | rfl | (simp; done) | (simp [*]; done)), (by first | rfl | (simp; done) | (simp [*]; done)), H', ⟨Nat.le_refl _⟩, ⟨by (with_reducible repeat (first | apply Kd.R_alloc | apply Kd.R_drewN | apply Kd.R_drew)); exact HO298.out⟩, ⟨by (with_reducible repeat (first | apply Kd.V_alloc | apply Kd.V_drewN | apply Kd.V_drew)); exact Kd.V_mono HO_277000.out (fun _ hk => ⟨hk.2, ⟨hk.1.1.1.2, ⟨hk.1.1.2, ⟨hk.1.1.1.1.2, hk.1.2⟩⟩⟩⟩)⟩, ⟨by (with_reducible repeat (first | apply Kd.V_alloc | apply Kd.V_drewN | apply Kd.V_drew)); exact Kd.V_mono HO_277001.out (fun _ hk => ⟨hk.2, ⟨hk.1.1.1.2, ⟨hk.1.1.2, ⟨hk.1.1.1.1.2, hk.1.2⟩⟩⟩⟩)⟩, ⟨by (with_reducible repeat (first | apply Kd.R_alloc | apply Kd.R_drewN | apply Kd.R_drew)); exact Kd.R_mono HO290.out (fun _ hk => trivial)⟩, ⟨by (with_reducible repeat (first | apply Kd.R_alloc | apply Kd.R_drewN | apply Kd.R_drew)); exact HO293.out⟩, ⟨by (with_reducible repeat (first | refine blk_drewN ?_ _ | refine blk_drew ?_ | refine blk_alloc ?_ _)); exact BK276.out⟩, ⟨by (with_reducible repeat (first | refine blk_drewN ?_ _ | refine blk_drew ?_ | refine blk_alloc ?_ _)); exact BK294.out⟩, ⟨by repeat (first | (with_reducible first | exact HB.out | apply below_alloc | apply pw_below_drewN | apply below_drew1 | refine below_set ?_ GE276.out | refine below_set ?_ GE294.out) | exact HB.out)⟩⟩
             case round =>
              clear H'
              try clear c1
              try clear c2
              try clear p2
              try clear q2
              try clear hx2
              try clear qi2
              try clear c3
              try clear p3
              try clear q3
              try clear hx3
              try clear qi3
              try clear c4
              try clear c5
              try clear c6
              try clear p6
              try clear c19
              try clear c20
              try clear c21
              try clear p29
              try clear q29
              try clear hx29
              try clear qi29
              try clear p30
              try clear q30
              try clear hx30
              try clear qi30
              try clear c31
              try clear c43
              try clear c48
              try clear c49
              try clear c50
              try clear c51
              try clear c51b0
              try clear c51b1
              try clear c51b2
              try clear c53
              try clear c53b0
              try clear c53b1
              try clear c54
              try clear c54b0
              try clear c55
              try clear c55b0
              try clear c56
              try clear c56b0
              try clear c63
              try clear p64
              try clear hcz57_0
              try clear hcz57_1
              try clear hcz64_0
              try clear hcz64_1
              try clear hcz67_0
              try clear hcz67_1
              try clear hfz57_0
              try clear hfz57_1
              try clear hfz64_0
              try clear hfz64_1
              try clear hfz67_0
              try clear hfz67_1
              try clear hx299_0
              try clear hx300_0
              try clear hx300_1
              try clear hx301_0
              try clear hx302_0
              try clear p299
              try clear p300
              try clear p301
              try clear p302
              try clear q299
              try clear q300
              try clear q301
              try clear q302
              obtain ⟨x16_3, x17_3, x18_3, rfl, rfl, rfl, HA, HK3, HO_15, HO_277000, HO_277001, HO_295000, HO_295001, BK276, BK294, HB⟩ := hrel
              cases gk with
              | zero => exact absurd HA.out (by simp [stopgatelaw04_CreditEdges.l1])
              | succ k3 =>
               have H := HA.out
               clear HA
               simp only [stopgatelaw04_CreditEdges.l1] at H
               by_cases c71 : x18_3 < (t296.length : Int)
               ·rw [if_pos c71] at H
                have c71b0 : decide (x18_3 < (t296.length : Int)) = true := decide_eq_true c71
                clear c71
                by_cases c72 : 0 ≤ x18_3
                ·rw [if_pos c72] at H
                 have c72b0 : decide (0 ≤ x18_3) = true := decide_eq_true c72
                 clear c72
                 by_cases c73 : 0 ≤ (rd t296 x18_3)
                 ·rw [if_pos c73] at H
                  have c73b0 : decide (0 ≤ (rd t296 x18_3)) = true := decide_eq_true c73
                  clear c73
                  by_cases c74 : (rd t296 x18_3) < (t288.length : Int)
                  ·rw [if_pos c74] at H
                   have c74b0 : decide ((rd t296 x18_3) < (t288.length : Int)) = true := decide_eq_true c74
                   clear c74
                   by_cases c75 : (rd t296 x18_3) < (t291.length : Int)
                   ·rw [if_pos c75] at H
                    have c75b0 : decide ((rd t296 x18_3) < (t291.length : Int)) = true := decide_eq_true c75
                    clear c75
                    by_cases c76 : (wrap64 (((rd_T68 t288 (rd t296 x18_3)).f1) - (rd t291 (rd t296 x18_3)))) < x16_3
                    ·rw [if_pos c76] at H
                     have c76b0 : decide ((wrap64 (((rd_T68 t288 (rd t296 x18_3)).f1) - (rd t291 (rd t296 x18_3)))) < x16_3) = true := decide_eq_true c76
                     clear c76
                     have H' := Aside0.mk H
                     clear H
                     try go_wp2
                     have n0_ := Aside0.mk (Kd.R_drew HO_15.out)
                     have n1_ := Aside0.mk (Kd.V_drew HO_277000.out)
                     have n2_ := Aside0.mk (Kd.V_drew HO_277001.out)
                     have n3_ := Aside0.mk (Kd.R_drew HO_295000.out)
                     have n4_ := Aside0.mk (Kd.R_drew HO_295001.out)
                     have n5_ := Aside0.mk (blk_drew BK276.out)
                     have n6_ := Aside0.mk (blk_drew BK294.out)
                     have n7_ := Aside0.mk (below_drew1 HB.out)
                     clear HO_15
                     clear HO_277000
                     clear HO_277001
                     clear HO_295000
                     clear HO_295001
                     clear BK276
                     clear BK294
                     clear HB
                     have HO_15 := n0_
                     have HO_277000 := n1_
                     have HO_277001 := n2_
                     have HO_295000 := n3_
                     have HO_295001 := n4_
                     have BK276 := n5_
                     have BK294 := n6_
                     have HB := n7_
                     clear n0_ n1_ n2_ n3_ n4_ n5_ n6_ n7_
                     have p303 : 0 ≤ (x18_3 : Int) := of_decide_eq_true (by first | (with_reducible assumption) | assumption)
                     have q303 : x18_3 < (t296.length : Int) := of_decide_eq_true (by first | (with_reducible assumption) | assumption)
                     obtain ⟨ad303, e303, hx303_0⟩ := Kd.at_int (Kd.R_reads' HO_15.out).2.2 x18_3 p303 q303
                     obtain rfl : ad299 = ad303 := (by injection e303)
                     replace p303 := eq_true p303
                     replace q303 := eq_true q303
                     have p304 : 0 ≤ ((rd t296 x18_3) : Int) := of_decide_eq_true (by first | (with_reducible assumption) | assumption)
                     have q304 : (rd t296 x18_3) < (t288.length : Int) := of_decide_eq_true (by first | (with_reducible assumption) | assumption)
                     obtain ⟨ad304, e304, hx304_0, hx304_1⟩ := at_T68 (Kd.R_reads' HO_295000.out).2.2 (rd t296 x18_3) p304 q304
                     obtain rfl : ad300 = ad304 := (by injection e304)
                     replace p304 := eq_true p304
                     replace q304 := eq_true q304
                     have p305 : 0 ≤ (x18_3 : Int) := of_decide_eq_true (by first | (with_reducible assumption) | assumption)
                     have q305 : x18_3 < (t296.length : Int) := of_decide_eq_true (by first | (with_reducible assumption) | assumption)
                     obtain ⟨ad305, e305, hx305_0⟩ := Kd.at_int (Kd.R_reads' HO_15.out).2.2 x18_3 p305 q305
                     obtain rfl : ad299 = ad305 := (by injection e305)
                     replace p305 := eq_true p305
                     replace q305 := eq_true q305
                     have p306 : 0 ≤ ((rd t296 x18_3) : Int) := of_decide_eq_true (by first | (with_reducible assumption) | assumption)
                     have q306 : (rd t296 x18_3) < (t291.length : Int) := of_decide_eq_true (by first | (with_reducible assumption) | assumption)
                     obtain ⟨ad306, e306, hx306_0⟩ := Kd.at_int (Kd.R_reads' HO_295001.out).2.2 (rd t296 x18_3) p306 q306
                     obtain rfl : ad302 = ad306 := (by injection e306)
                     replace p306 := eq_true p306
                     replace q306 := eq_true q306
                     refine start_ (n := 20) (S := fun w' => w'.cell? ⟨gb294, 0, none⟩ = some (.slice (some ad300) t288.length co62) ∧ w'.cell? ⟨gb294, 1, none⟩ = some (.slice (some ad302) t291.length co65) ∧ w'.cell? (ad299.add (x18_3).toNat) = some (.int .i64 (rd t296 x18_3)) ∧ w'.cell? (ad300.add (((rd t296 x18_3)).toNat * 2)) = some (.int .i64 ((rd_T68 t288 (rd t296 x18_3)).f0)) ∧ w'.cell? ⟨(ad300.add (((rd t296 x18_3)).toNat * 2)).block, (ad300.add (((rd t296 x18_3)).toNat * 2)).off + 1, none⟩ = some (.int .i64 ((rd_T68 t288 (rd t296 x18_3)).f1)) ∧ w'.cell? (ad299.add (x18_3).toNat) = some (.int .i64 (rd t296 x18_3)) ∧ w'.cell? (ad302.add ((rd t296 x18_3)).toNat) = some (.int .i64 (rd t291 (rd t296 x18_3)))) (ds := []) #[false, false, false, false, false, false, false, false, false, false, false, false, false, false, false, false, false, false, false, false] (by kernel_rfl) rfl rfl ⟨(blk_cell BK294.out 0).trans rfl, (blk_cell BK294.out 1).trans rfl, hx303_0, hx304_0, hx304_1, hx305_0, hx306_0⟩ (fun hHeld => ?_); refine with_tabW stopgatelaw04_CreditEdges.tab18 stopgatelaw04_CreditEdges.bits18 (fun HT_ HW_ => ?_)
                     generalize wr.drew = w77 at HO_15 HO_277000 HO_277001 HO_295000 HO_295001 BK276 BK294 HB hx303_0 hx304_0 hx304_1 hx305_0 hx306_0 hHeld ⊢
                     refine pure_ (i := 0) (N := some 110) (v := ?_) (a' := ?_) #[true, false, false, false, false, false, false, false, false, false, false, false, false, false, false, false, false, false, false, false] rfl rfl (any_of HT_.out (by kernel_rfl)) (fun _ _ _ h => h) (Or.inl ⟨by rfl, ?_⟩) ?_ ?_
                     rotate_left
                     ·intro w'
                      go_simp
                      with_reducible rfl
                     rotate_left
                     ·simp only [Act.put, List.setIfInBounds_toArray, List.set_cons_zero, List.set_cons_succ, i64_w, i32_w]
                      rfl
                     refine pure_ (i := 2) (N := some 112) (v := ?_) (a' := ?_) #[true, false, true, false, false, false, false, false, false, false, false, false, false, false, false, false, false, false, false, false] rfl rfl (any_of HT_.out (by kernel_rfl)) (fun _ _ _ h => h) (Or.inl ⟨by rfl, ?_⟩) ?_ ?_
                     rotate_left
                     ·intro w'
                      go_simp
                      with_reducible rfl
                     rotate_left
                     ·simp only [Act.put, List.setIfInBounds_toArray, List.set_cons_zero, List.set_cons_succ, i64_w, i32_w]
                      rfl
                     refine pure_ (i := 3) (N := some 113) (v := ?_) (a' := ?_) #[true, false, true, true, false, false, false, false, false, false, false, false, false, false, false, false, false, false, false, false] rfl rfl (any_of HT_.out (by kernel_rfl)) (fun _ _ _ h => h) (Or.inl ⟨by rfl, ?_⟩) ?_ ?_
                     rotate_left
                     ·intro w'
                      go_simp
                      with_reducible rfl
                     rotate_left
                     ·simp only [Act.put, List.setIfInBounds_toArray, List.set_cons_zero, List.set_cons_succ, i64_w, i32_w]
                      rfl
                     refine pure_ (i := 4) (N := some 114) (v := ?_) (a' := ?_) #[true, false, true, true, true, false, false, false, false, false, false, false, false, false, false, false, false, false, false, false] rfl rfl (any_of HT_.out (by kernel_rfl)) (fun _ _ _ h => h) (Or.inl ⟨by rfl, ?_⟩) ?_ ?_
                     rotate_left
                     ·intro w'
                      go_simp
                      with_reducible rfl
                     rotate_left
                     ·simp only [Act.put, List.setIfInBounds_toArray, List.set_cons_zero, List.set_cons_succ, i64_w, i32_w]
                      rfl
                     refine pure_ (i := 9) (N := some 119) (v := ?_) (a' := ?_) #[true, false, true, true, true, false, false, false, false, true, false, false, false, false, false, false, false, false, false, false] rfl rfl (any_of HT_.out (by kernel_rfl)) (fun _ _ _ h => h) (Or.inl ⟨by rfl, ?_⟩) ?_ ?_
                     rotate_left
                     ·intro w'
                      go_simp
                      with_reducible rfl
                     rotate_left
                     ·simp only [Act.put, List.setIfInBounds_toArray, List.set_cons_zero, List.set_cons_succ, i64_w, i32_w]
                      rfl
                     refine pure_ (i := 11) (N := some 121) (v := ?_) (a' := ?_) #[true, false, true, true, true, false, false, false, false, true, false, true, false, false, false, false, false, false, false, false] rfl rfl (any_of HT_.out (by kernel_rfl)) (fun _ _ _ h => h) (Or.inl ⟨by rfl, ?_⟩) ?_ ?_
                     rotate_left
                     ·intro w'
                      go_simp
                      with_reducible rfl
                     rotate_left
                     ·simp only [Act.put, List.setIfInBounds_toArray, List.set_cons_zero, List.set_cons_succ, i64_w, i32_w]
                      rfl
                     refine pure_ (i := 12) (N := some 122) (v := ?_) (a' := ?_) #[true, false, true, true, true, false, false, false, false, true, false, true, true, false, false, false, false, false, false, false] rfl rfl (any_of HT_.out (by kernel_rfl)) (fun _ _ _ h => h) (Or.inl ⟨by rfl, ?_⟩) ?_ ?_
                     rotate_left
                     ·intro w'
                      go_simp
                      with_reducible rfl
                     rotate_left
                     ·simp only [Act.put, List.setIfInBounds_toArray, List.set_cons_zero, List.set_cons_succ, i64_w, i32_w]
                      rfl
                     refine pure_ (i := 13) (N := some 123) (v := ?_) (a' := ?_) #[true, false, true, true, true, false, false, false, false, true, false, true, true, true, false, false, false, false, false, false] rfl rfl (any_of HT_.out (by kernel_rfl)) (fun _ _ _ h => h) (Or.inl ⟨by rfl, ?_⟩) ?_ ?_
                     rotate_left
                     ·intro w'
                      go_simp
                      with_reducible rfl
                     rotate_left
                     ·simp only [Act.put, List.setIfInBounds_toArray, List.set_cons_zero, List.set_cons_succ, i64_w, i32_w]
                      rfl
                     refine pure_ (i := 18) (N := some 128) (v := ?_) (a' := ?_) #[true, false, true, true, true, false, false, false, false, true, false, true, true, true, false, false, false, false, true, false] rfl rfl (any_of HT_.out (by kernel_rfl)) (fun _ _ _ h => h) (Or.inl ⟨by rfl, ?_⟩) ?_ ?_
                     rotate_left
                     ·intro w'
                      go_simp
                      with_reducible rfl
                     rotate_left
                     ·simp only [Act.put, List.setIfInBounds_toArray, List.set_cons_zero, List.set_cons_succ, i64_w, i32_w]
                      rfl
                     refine take_ (i := 1) (N := some 111) (v := ?_) (a' := ?_) #[true, true, true, true, true, false, false, false, false, true, false, true, true, true, false, false, false, false, true, false] rfl rfl (take_ofW HT_.out HW_.out (by kernel_rfl)) (fun _ _ _ h => h) (Or.inl ⟨by rfl, ?_⟩) hHeld ?_ ?_
                     rotate_left
                     ·rintro w' ⟨s0, s1, s2, s3, s4, s5, s6⟩
                      go_simp
                      with_reducible rfl
                     rotate_left
                     ·simp only [Act.put, List.setIfInBounds_toArray, List.set_cons_zero, List.set_cons_succ, i64_w, i32_w]
                      rfl
                     refine take_ (i := 5) (N := some 115) (v := ?_) (a' := ?_) #[true, true, true, true, true, true, false, false, false, true, false, true, true, true, false, false, false, false, true, false] rfl rfl (take_ofW HT_.out HW_.out (by kernel_rfl)) (fun _ _ _ h => h) (Or.inl ⟨by rfl, ?_⟩) hHeld ?_ ?_
                     rotate_left
                     ·rintro w' ⟨s0, s1, s2, s3, s4, s5, s6⟩
                      go_simp
                      with_reducible rfl
                     rotate_left
                     ·simp only [Act.put, List.setIfInBounds_toArray, List.set_cons_zero, List.set_cons_succ, i64_w, i32_w]
                      rfl
                     refine pure_ (i := 6) (N := some 116) (v := ?_) (a' := ?_) #[true, true, true, true, true, true, true, false, false, true, false, true, true, true, false, false, false, false, true, false] rfl rfl (any_of HT_.out (by kernel_rfl)) (fun _ _ _ h => h) (Or.inl ⟨by rfl, ?_⟩) ?_ ?_
                     rotate_left
                     ·intro w'
                      go_simp
                      with_reducible rfl
                     rotate_left
                     ·simp only [Act.put, List.setIfInBounds_toArray, List.set_cons_zero, List.set_cons_succ, i64_w, i32_w]
                      rfl
                     refine pure_ (i := 7) (N := some 117) (v := ?_) (a' := ?_) #[true, true, true, true, true, true, true, true, false, true, false, true, true, true, false, false, false, false, true, false] rfl rfl (any_of HT_.out (by kernel_rfl)) (fun _ _ _ h => h) (Or.inl ⟨by rfl, ?_⟩) ?_ ?_
                     rotate_left
                     ·intro w'
                      go_simp
                      with_reducible rfl
                     rotate_left
                     ·simp only [Act.put, List.setIfInBounds_toArray, List.set_cons_zero, List.set_cons_succ, i64_w, i32_w]
                      rfl
                     refine take_ (i := 8) (N := some 118) (v := ?_) (a' := ?_) #[true, true, true, true, true, true, true, true, true, true, false, true, true, true, false, false, false, false, true, false] rfl rfl (take_ofW HT_.out HW_.out (by kernel_rfl)) (fun _ _ _ h => h) (Or.inl ⟨by rfl, ?_⟩) hHeld ?_ ?_
                     rotate_left
                     ·rintro w' ⟨s0, s1, s2, s3, s4, s5, s6⟩
                      go_simp
                      with_reducible rfl
                     rotate_left
                     ·simp only [Act.put, List.setIfInBounds_toArray, List.set_cons_zero, List.set_cons_succ, i64_w, i32_w]
                      rfl
                     refine take_ (i := 10) (N := some 120) (v := ?_) (a' := ?_) #[true, true, true, true, true, true, true, true, true, true, true, true, true, true, false, false, false, false, true, false] rfl rfl (take_ofW HT_.out HW_.out (by kernel_rfl)) (fun _ _ _ h => h) (Or.inl ⟨by rfl, ?_⟩) hHeld ?_ ?_
                     rotate_left
                     ·rintro w' ⟨s0, s1, s2, s3, s4, s5, s6⟩
                      go_simp
                      with_reducible rfl
                     rotate_left
                     ·simp only [Act.put, List.setIfInBounds_toArray, List.set_cons_zero, List.set_cons_succ, i64_w, i32_w]
                      rfl
                     refine take_ (i := 14) (N := some 124) (v := ?_) (a' := ?_) #[true, true, true, true, true, true, true, true, true, true, true, true, true, true, true, false, false, false, true, false] rfl rfl (take_ofW HT_.out HW_.out (by kernel_rfl)) (fun _ _ _ h => h) (Or.inl ⟨by rfl, ?_⟩) hHeld ?_ ?_
                     rotate_left
                     ·rintro w' ⟨s0, s1, s2, s3, s4, s5, s6⟩
                      go_simp
                      with_reducible rfl
                     rotate_left
                     ·simp only [Act.put, List.setIfInBounds_toArray, List.set_cons_zero, List.set_cons_succ, i64_w, i32_w]
                      rfl
                     refine pure_ (i := 15) (N := some 125) (v := ?_) (a' := ?_) #[true, true, true, true, true, true, true, true, true, true, true, true, true, true, true, true, false, false, true, false] rfl rfl (any_of HT_.out (by kernel_rfl)) (fun _ _ _ h => h) (Or.inl ⟨by rfl, ?_⟩) ?_ ?_
                     rotate_left
                     ·intro w'
                      go_simp
                      with_reducible rfl
                     rotate_left
                     ·simp only [Act.put, List.setIfInBounds_toArray, List.set_cons_zero, List.set_cons_succ, i64_w, i32_w]
                      rfl
                     refine take_ (i := 16) (N := some 126) (v := ?_) (a' := ?_) #[true, true, true, true, true, true, true, true, true, true, true, true, true, true, true, true, true, false, true, false] rfl rfl (take_ofW HT_.out HW_.out (by kernel_rfl)) (fun _ _ _ h => h) (Or.inl ⟨by rfl, ?_⟩) hHeld ?_ ?_
                     rotate_left
                     ·rintro w' ⟨s0, s1, s2, s3, s4, s5, s6⟩
                      go_simp
                      with_reducible rfl
                     rotate_left
                     ·simp only [Act.put, List.setIfInBounds_toArray, List.set_cons_zero, List.set_cons_succ, i64_w, i32_w]
                      rfl
                     refine pure_ (i := 17) (N := some 127) (v := ?_) (a' := ?_) #[true, true, true, true, true, true, true, true, true, true, true, true, true, true, true, true, true, true, true, false] rfl rfl (any_of HT_.out (by kernel_rfl)) (fun _ _ _ h => h) (Or.inl ⟨by rfl, ?_⟩) ?_ ?_
                     rotate_left
                     ·intro w'
                      go_simp
                      with_reducible rfl
                     rotate_left
                     ·simp only [Act.put, List.setIfInBounds_toArray, List.set_cons_zero, List.set_cons_succ, i64_w, i32_w]
                      rfl
                     refine pure_ (i := 19) (N := some 129) (v := ?_) (a' := ?_) #[true, true, true, true, true, true, true, true, true, true, true, true, true, true, true, true, true, true, true, true] rfl rfl (any_of HT_.out (by kernel_rfl)) (fun _ _ _ h => h) (Or.inl ⟨by rfl, ?_⟩) ?_ ?_
                     rotate_left
                     ·intro w'
                      go_simp
                      with_reducible rfl
                     rotate_left
                     ·simp only [Act.put, List.setIfInBounds_toArray, List.set_cons_zero, List.set_cons_succ, i64_w, i32_w]
                      rfl
                     refine done_ (done_of HT_.out (by kernel_rfl)) ?_
                     try go_wp2
                     have n0_ := Aside0.mk (Kd.R_drew HO_15.out)
                     have n1_ := Aside0.mk (Kd.V_drew HO_277000.out)
                     have n2_ := Aside0.mk (Kd.V_drew HO_277001.out)
                     have n3_ := Aside0.mk (Kd.R_drew HO_295000.out)
                     have n4_ := Aside0.mk (Kd.R_drew HO_295001.out)
                     have n5_ := Aside0.mk (blk_drew BK276.out)
                     have n6_ := Aside0.mk (blk_drew BK294.out)
                     have n7_ := Aside0.mk (below_drew1 HB.out)
                     clear HO_15
                     clear HO_277000
                     clear HO_277001
                     clear HO_295000
                     clear HO_295001
                     clear BK276
                     clear BK294
                     clear HB
                     have HO_15 := n0_
                     have HO_277000 := n1_
                     have HO_277001 := n2_
                     have HO_295000 := n3_
                     have HO_295001 := n4_
                     have BK276 := n5_
                     have BK294 := n6_
                     have HB := n7_
                     clear n0_ n1_ n2_ n3_ n4_ n5_ n6_ n7_
                     have p307 : 0 ≤ (x18_3 : Int) := of_decide_eq_true (by first | (with_reducible assumption) | assumption)
                     have q307 : x18_3 < (t296.length : Int) := of_decide_eq_true (by first | (with_reducible assumption) | assumption)
                     obtain ⟨ad307, e307, hx307_0⟩ := Kd.at_int (Kd.R_reads' HO_15.out).2.2 x18_3 p307 q307
                     obtain rfl : ad299 = ad307 := (by injection e307)
                     replace p307 := eq_true p307
                     replace q307 := eq_true q307
                     have p308 : 0 ≤ ((rd t296 x18_3) : Int) := of_decide_eq_true (by first | (with_reducible assumption) | assumption)
                     have q308 : (rd t296 x18_3) < (t288.length : Int) := of_decide_eq_true (by first | (with_reducible assumption) | assumption)
                     obtain ⟨ad308, e308, hx308_0, hx308_1⟩ := at_T68 (Kd.R_reads' HO_295000.out).2.2 (rd t296 x18_3) p308 q308
                     obtain rfl : ad300 = ad308 := (by injection e308)
                     replace p308 := eq_true p308
                     replace q308 := eq_true q308
                     have p309 : 0 ≤ (x18_3 : Int) := of_decide_eq_true (by first | (with_reducible assumption) | assumption)
                     have q309 : x18_3 < (t296.length : Int) := of_decide_eq_true (by first | (with_reducible assumption) | assumption)
                     obtain ⟨ad309, e309, hx309_0⟩ := Kd.at_int (Kd.R_reads' HO_15.out).2.2 x18_3 p309 q309
                     obtain rfl : ad299 = ad309 := (by injection e309)
                     replace p309 := eq_true p309
                     replace q309 := eq_true q309
                     have p310 : 0 ≤ ((rd t296 x18_3) : Int) := of_decide_eq_true (by first | (with_reducible assumption) | assumption)
                     have q310 : (rd t296 x18_3) < (t291.length : Int) := of_decide_eq_true (by first | (with_reducible assumption) | assumption)
                     obtain ⟨ad310, e310, hx310_0⟩ := Kd.at_int (Kd.R_reads' HO_295001.out).2.2 (rd t296 x18_3) p310 q310
                     obtain rfl : ad302 = ad310 := (by injection e310)
                     replace p310 := eq_true p310
                     replace q310 := eq_true q310
                     refine start_ (n := 21) (S := fun w' => w'.cell? ⟨gb294, 0, none⟩ = some (.slice (some ad300) t288.length co62) ∧ w'.cell? ⟨gb294, 1, none⟩ = some (.slice (some ad302) t291.length co65) ∧ w'.cell? (ad299.add (x18_3).toNat) = some (.int .i64 (rd t296 x18_3)) ∧ w'.cell? (ad300.add (((rd t296 x18_3)).toNat * 2)) = some (.int .i64 ((rd_T68 t288 (rd t296 x18_3)).f0)) ∧ w'.cell? ⟨(ad300.add (((rd t296 x18_3)).toNat * 2)).block, (ad300.add (((rd t296 x18_3)).toNat * 2)).off + 1, none⟩ = some (.int .i64 ((rd_T68 t288 (rd t296 x18_3)).f1)) ∧ w'.cell? (ad299.add (x18_3).toNat) = some (.int .i64 (rd t296 x18_3)) ∧ w'.cell? (ad302.add ((rd t296 x18_3)).toNat) = some (.int .i64 (rd t291 (rd t296 x18_3)))) (ds := []) #[false, false, false, false, false, false, false, false, false, false, false, false, false, false, false, false, false, false, false, false, false] (by kernel_rfl) rfl rfl ⟨(blk_cell BK294.out 0).trans rfl, (blk_cell BK294.out 1).trans rfl, hx307_0, hx308_0, hx308_1, hx309_0, hx310_0⟩ (fun hHeld => ?_); refine with_tabW stopgatelaw04_CreditEdges.tab19 stopgatelaw04_CreditEdges.bits19 (fun HT_ HW_ => ?_)
                     generalize w77.drew = w78 at HO_15 HO_277000 HO_277001 HO_295000 HO_295001 BK276 BK294 HB hx307_0 hx308_0 hx308_1 hx309_0 hx310_0 hHeld ⊢
                     refine pure_ (i := 0) (N := some 130) (v := ?_) (a' := ?_) #[true, false, false, false, false, false, false, false, false, false, false, false, false, false, false, false, false, false, false, false, false] rfl rfl (any_of HT_.out (by kernel_rfl)) (fun _ _ _ h => h) (Or.inl ⟨by rfl, ?_⟩) ?_ ?_
                     rotate_left
                     ·intro w'
                      go_simp
                      with_reducible rfl
                     rotate_left
                     ·simp only [Act.put, List.setIfInBounds_toArray, List.set_cons_zero, List.set_cons_succ, i64_w, i32_w]
                      rfl
                     refine pure_ (i := 2) (N := some 132) (v := ?_) (a' := ?_) #[true, false, true, false, false, false, false, false, false, false, false, false, false, false, false, false, false, false, false, false, false] rfl rfl (any_of HT_.out (by kernel_rfl)) (fun _ _ _ h => h) (Or.inl ⟨by rfl, ?_⟩) ?_ ?_
                     rotate_left
                     ·intro w'
                      go_simp
                      with_reducible rfl
                     rotate_left
                     ·simp only [Act.put, List.setIfInBounds_toArray, List.set_cons_zero, List.set_cons_succ, i64_w, i32_w]
                      rfl
                     refine pure_ (i := 3) (N := some 133) (v := ?_) (a' := ?_) #[true, false, true, true, false, false, false, false, false, false, false, false, false, false, false, false, false, false, false, false, false] rfl rfl (any_of HT_.out (by kernel_rfl)) (fun _ _ _ h => h) (Or.inl ⟨by rfl, ?_⟩) ?_ ?_
                     rotate_left
                     ·intro w'
                      go_simp
                      with_reducible rfl
                     rotate_left
                     ·simp only [Act.put, List.setIfInBounds_toArray, List.set_cons_zero, List.set_cons_succ, i64_w, i32_w]
                      rfl
                     refine pure_ (i := 4) (N := some 134) (v := ?_) (a' := ?_) #[true, false, true, true, true, false, false, false, false, false, false, false, false, false, false, false, false, false, false, false, false] rfl rfl (any_of HT_.out (by kernel_rfl)) (fun _ _ _ h => h) (Or.inl ⟨by rfl, ?_⟩) ?_ ?_
                     rotate_left
                     ·intro w'
                      go_simp
                      with_reducible rfl
                     rotate_left
                     ·simp only [Act.put, List.setIfInBounds_toArray, List.set_cons_zero, List.set_cons_succ, i64_w, i32_w]
                      rfl
                     refine pure_ (i := 9) (N := some 139) (v := ?_) (a' := ?_) #[true, false, true, true, true, false, false, false, false, true, false, false, false, false, false, false, false, false, false, false, false] rfl rfl (any_of HT_.out (by kernel_rfl)) (fun _ _ _ h => h) (Or.inl ⟨by rfl, ?_⟩) ?_ ?_
                     rotate_left
                     ·intro w'
                      go_simp
                      with_reducible rfl
                     rotate_left
                     ·simp only [Act.put, List.setIfInBounds_toArray, List.set_cons_zero, List.set_cons_succ, i64_w, i32_w]
                      rfl
                     refine pure_ (i := 11) (N := some 141) (v := ?_) (a' := ?_) #[true, false, true, true, true, false, false, false, false, true, false, true, false, false, false, false, false, false, false, false, false] rfl rfl (any_of HT_.out (by kernel_rfl)) (fun _ _ _ h => h) (Or.inl ⟨by rfl, ?_⟩) ?_ ?_
                     rotate_left
                     ·intro w'
                      go_simp
                      with_reducible rfl
                     rotate_left
                     ·simp only [Act.put, List.setIfInBounds_toArray, List.set_cons_zero, List.set_cons_succ, i64_w, i32_w]
                      rfl
                     refine pure_ (i := 12) (N := some 142) (v := ?_) (a' := ?_) #[true, false, true, true, true, false, false, false, false, true, false, true, true, false, false, false, false, false, false, false, false] rfl rfl (any_of HT_.out (by kernel_rfl)) (fun _ _ _ h => h) (Or.inl ⟨by rfl, ?_⟩) ?_ ?_
                     rotate_left
                     ·intro w'
                      go_simp
                      with_reducible rfl
                     rotate_left
                     ·simp only [Act.put, List.setIfInBounds_toArray, List.set_cons_zero, List.set_cons_succ, i64_w, i32_w]
                      rfl
                     refine pure_ (i := 13) (N := some 143) (v := ?_) (a' := ?_) #[true, false, true, true, true, false, false, false, false, true, false, true, true, true, false, false, false, false, false, false, false] rfl rfl (any_of HT_.out (by kernel_rfl)) (fun _ _ _ h => h) (Or.inl ⟨by rfl, ?_⟩) ?_ ?_
                     rotate_left
                     ·intro w'
                      go_simp
                      with_reducible rfl
                     rotate_left
                     ·simp only [Act.put, List.setIfInBounds_toArray, List.set_cons_zero, List.set_cons_succ, i64_w, i32_w]
                      rfl
                     refine pure_ (i := 18) (N := some 148) (v := ?_) (a' := ?_) #[true, false, true, true, true, false, false, false, false, true, false, true, true, true, false, false, false, false, true, false, false] rfl rfl (any_of HT_.out (by kernel_rfl)) (fun _ _ _ h => h) (Or.inl ⟨by rfl, ?_⟩) ?_ ?_
                     rotate_left
                     ·intro w'
                      go_simp
                      with_reducible rfl
                     rotate_left
                     ·simp only [Act.put, List.setIfInBounds_toArray, List.set_cons_zero, List.set_cons_succ, i64_w, i32_w]
                      rfl
                     refine take_ (i := 1) (N := some 131) (v := ?_) (a' := ?_) #[true, true, true, true, true, false, false, false, false, true, false, true, true, true, false, false, false, false, true, false, false] rfl rfl (take_ofW HT_.out HW_.out (by kernel_rfl)) (fun _ _ _ h => h) (Or.inl ⟨by rfl, ?_⟩) hHeld ?_ ?_
                     rotate_left
                     ·rintro w' ⟨s0, s1, s2, s3, s4, s5, s6⟩
                      go_simp
                      with_reducible rfl
                     rotate_left
                     ·simp only [Act.put, List.setIfInBounds_toArray, List.set_cons_zero, List.set_cons_succ, i64_w, i32_w]
                      rfl
                     refine take_ (i := 5) (N := some 135) (v := ?_) (a' := ?_) #[true, true, true, true, true, true, false, false, false, true, false, true, true, true, false, false, false, false, true, false, false] rfl rfl (take_ofW HT_.out HW_.out (by kernel_rfl)) (fun _ _ _ h => h) (Or.inl ⟨by rfl, ?_⟩) hHeld ?_ ?_
                     rotate_left
                     ·rintro w' ⟨s0, s1, s2, s3, s4, s5, s6⟩
                      go_simp
                      with_reducible rfl
                     rotate_left
                     ·simp only [Act.put, List.setIfInBounds_toArray, List.set_cons_zero, List.set_cons_succ, i64_w, i32_w]
                      rfl
                     refine pure_ (i := 6) (N := some 136) (v := ?_) (a' := ?_) #[true, true, true, true, true, true, true, false, false, true, false, true, true, true, false, false, false, false, true, false, false] rfl rfl (any_of HT_.out (by kernel_rfl)) (fun _ _ _ h => h) (Or.inl ⟨by rfl, ?_⟩) ?_ ?_
                     rotate_left
                     ·intro w'
                      go_simp
                      with_reducible rfl
                     rotate_left
                     ·simp only [Act.put, List.setIfInBounds_toArray, List.set_cons_zero, List.set_cons_succ, i64_w, i32_w]
                      rfl
                     refine pure_ (i := 7) (N := some 137) (v := ?_) (a' := ?_) #[true, true, true, true, true, true, true, true, false, true, false, true, true, true, false, false, false, false, true, false, false] rfl rfl (any_of HT_.out (by kernel_rfl)) (fun _ _ _ h => h) (Or.inl ⟨by rfl, ?_⟩) ?_ ?_
                     rotate_left
                     ·intro w'
                      go_simp
                      with_reducible rfl
                     rotate_left
                     ·simp only [Act.put, List.setIfInBounds_toArray, List.set_cons_zero, List.set_cons_succ, i64_w, i32_w]
                      rfl
                     refine take_ (i := 8) (N := some 138) (v := ?_) (a' := ?_) #[true, true, true, true, true, true, true, true, true, true, false, true, true, true, false, false, false, false, true, false, false] rfl rfl (take_ofW HT_.out HW_.out (by kernel_rfl)) (fun _ _ _ h => h) (Or.inl ⟨by rfl, ?_⟩) hHeld ?_ ?_
                     rotate_left
                     ·rintro w' ⟨s0, s1, s2, s3, s4, s5, s6⟩
                      go_simp
                      with_reducible rfl
                     rotate_left
                     ·simp only [Act.put, List.setIfInBounds_toArray, List.set_cons_zero, List.set_cons_succ, i64_w, i32_w]
                      rfl
                     refine take_ (i := 10) (N := some 140) (v := ?_) (a' := ?_) #[true, true, true, true, true, true, true, true, true, true, true, true, true, true, false, false, false, false, true, false, false] rfl rfl (take_ofW HT_.out HW_.out (by kernel_rfl)) (fun _ _ _ h => h) (Or.inl ⟨by rfl, ?_⟩) hHeld ?_ ?_
                     rotate_left
                     ·rintro w' ⟨s0, s1, s2, s3, s4, s5, s6⟩
                      go_simp
                      with_reducible rfl
                     rotate_left
                     ·simp only [Act.put, List.setIfInBounds_toArray, List.set_cons_zero, List.set_cons_succ, i64_w, i32_w]
                      rfl
                     refine take_ (i := 14) (N := some 144) (v := ?_) (a' := ?_) #[true, true, true, true, true, true, true, true, true, true, true, true, true, true, true, false, false, false, true, false, false] rfl rfl (take_ofW HT_.out HW_.out (by kernel_rfl)) (fun _ _ _ h => h) (Or.inl ⟨by rfl, ?_⟩) hHeld ?_ ?_
                     rotate_left
                     ·rintro w' ⟨s0, s1, s2, s3, s4, s5, s6⟩
                      go_simp
                      with_reducible rfl
                     rotate_left
                     ·simp only [Act.put, List.setIfInBounds_toArray, List.set_cons_zero, List.set_cons_succ, i64_w, i32_w]
                      rfl
                     refine pure_ (i := 15) (N := some 145) (v := ?_) (a' := ?_) #[true, true, true, true, true, true, true, true, true, true, true, true, true, true, true, true, false, false, true, false, false] rfl rfl (any_of HT_.out (by kernel_rfl)) (fun _ _ _ h => h) (Or.inl ⟨by rfl, ?_⟩) ?_ ?_
                     rotate_left
                     ·intro w'
                      go_simp
                      with_reducible rfl
                     rotate_left
                     ·simp only [Act.put, List.setIfInBounds_toArray, List.set_cons_zero, List.set_cons_succ, i64_w, i32_w]
                      rfl
                     refine take_ (i := 16) (N := some 146) (v := ?_) (a' := ?_) #[true, true, true, true, true, true, true, true, true, true, true, true, true, true, true, true, true, false, true, false, false] rfl rfl (take_ofW HT_.out HW_.out (by kernel_rfl)) (fun _ _ _ h => h) (Or.inl ⟨by rfl, ?_⟩) hHeld ?_ ?_
                     rotate_left
                     ·rintro w' ⟨s0, s1, s2, s3, s4, s5, s6⟩
                      go_simp
                      with_reducible rfl
                     rotate_left
                     ·simp only [Act.put, List.setIfInBounds_toArray, List.set_cons_zero, List.set_cons_succ, i64_w, i32_w]
                      rfl
                     refine pure_ (i := 17) (N := some 147) (v := ?_) (a' := ?_) #[true, true, true, true, true, true, true, true, true, true, true, true, true, true, true, true, true, true, true, false, false] rfl rfl (any_of HT_.out (by kernel_rfl)) (fun _ _ _ h => h) (Or.inl ⟨by rfl, ?_⟩) ?_ ?_
                     rotate_left
                     ·intro w'
                      go_simp
                      with_reducible rfl
                     rotate_left
                     ·simp only [Act.put, List.setIfInBounds_toArray, List.set_cons_zero, List.set_cons_succ, i64_w, i32_w]
                      rfl
                     refine pure_ (i := 19) (N := some 16) (v := ?_) (a' := ?_) #[true, true, true, true, true, true, true, true, true, true, true, true, true, true, true, true, true, true, true, true, false] rfl rfl (any_of HT_.out (by kernel_rfl)) (fun _ _ _ h => h) (Or.inl ⟨by rfl, ?_⟩) ?_ ?_
                     rotate_left
                     ·intro w'
                      go_simp
                      with_reducible rfl
                     rotate_left
                     ·simp only [Act.put, List.setIfInBounds_toArray, List.set_cons_zero, List.set_cons_succ, i64_w, i32_w]
                      rfl
                     refine pure_ (i := 20) (N := some 17) (v := ?_) (a' := ?_) #[true, true, true, true, true, true, true, true, true, true, true, true, true, true, true, true, true, true, true, true, true] rfl rfl (any_of HT_.out (by kernel_rfl)) (fun _ _ _ h => h) (Or.inl ⟨by rfl, ?_⟩) ?_ ?_
                     rotate_left
                     ·intro w'
                      go_simp
                      with_reducible rfl
                     rotate_left
                     ·simp only [Act.put, List.setIfInBounds_toArray, List.set_cons_zero, List.set_cons_succ, i64_w, i32_w]
                      rfl
                     refine done_ (done_of HT_.out (by kernel_rfl)) ?_
                     try go_wp2
                     go_roundg k3
                     case measure => have := HK1.out; have := HJ16.out; have := HK3.out; omega
                     case rel => exact ⟨(wrap64 (((rd_T68 t288 (rd t296 x18_3)).f1) - (rd t291 (rd t296 x18_3)))), (x18_3), (wrap64 (x18_3 + 1)), (by first | rfl | (simp; done) | (simp [*]; done)), (by first | rfl | (simp; done) | (simp [*]; done)), (by first | rfl | (simp; done) | (simp [*]; done)), H', ⟨by have := HK1.out; have := HJ16.out; have := HK3.out; omega⟩, ⟨by (with_reducible repeat (first | apply Kd.R_alloc | apply Kd.R_drewN | apply Kd.R_drew)); exact HO_15.out⟩, ⟨by (with_reducible repeat (first | apply Kd.V_alloc | apply Kd.V_drewN | apply Kd.V_drew)); exact HO_277000.out⟩, ⟨by (with_reducible repeat (first | apply Kd.V_alloc | apply Kd.V_drewN | apply Kd.V_drew)); exact HO_277001.out⟩, ⟨by (with_reducible repeat (first | apply Kd.R_alloc | apply Kd.R_drewN | apply Kd.R_drew)); exact HO_295000.out⟩, ⟨by (with_reducible repeat (first | apply Kd.R_alloc | apply Kd.R_drewN | apply Kd.R_drew)); exact HO_295001.out⟩, ⟨by (with_reducible repeat (first | refine blk_drewN ?_ _ | refine blk_drew ?_ | refine blk_alloc ?_ _)); exact BK276.out⟩, ⟨by (with_reducible repeat (first | refine blk_drewN ?_ _ | refine blk_drew ?_ | refine blk_alloc ?_ _)); exact BK294.out⟩, ⟨by repeat (first | (with_reducible first | exact HB.out | apply below_alloc | apply pw_below_drewN | apply below_drew1 | refine below_set ?_ GE276.out | refine below_set ?_ GE294.out) | exact HB.out)⟩⟩
                    ·rw [if_neg c76] at H
                     have c76b0 : decide ((wrap64 (((rd_T68 t288 (rd t296 x18_3)).f1) - (rd t291 (rd t296 x18_3)))) < x16_3) = false := decide_eq_false c76
                     clear c76
                     have H' := Aside0.mk H
                     clear H
                     try go_wp2
                     have n0_ := Aside0.mk (Kd.R_drew HO_15.out)
                     have n1_ := Aside0.mk (Kd.V_drew HO_277000.out)
                     have n2_ := Aside0.mk (Kd.V_drew HO_277001.out)
                     have n3_ := Aside0.mk (Kd.R_drew HO_295000.out)
                     have n4_ := Aside0.mk (Kd.R_drew HO_295001.out)
                     have n5_ := Aside0.mk (blk_drew BK276.out)
                     have n6_ := Aside0.mk (blk_drew BK294.out)
                     have n7_ := Aside0.mk (below_drew1 HB.out)
                     clear HO_15
                     clear HO_277000
                     clear HO_277001
                     clear HO_295000
                     clear HO_295001
                     clear BK276
                     clear BK294
                     clear HB
                     have HO_15 := n0_
                     have HO_277000 := n1_
                     have HO_277001 := n2_
                     have HO_295000 := n3_
                     have HO_295001 := n4_
                     have BK276 := n5_
                     have BK294 := n6_
                     have HB := n7_
                     clear n0_ n1_ n2_ n3_ n4_ n5_ n6_ n7_
                     have p303 : 0 ≤ (x18_3 : Int) := of_decide_eq_true (by first | (with_reducible assumption) | assumption)
                     have q303 : x18_3 < (t296.length : Int) := of_decide_eq_true (by first | (with_reducible assumption) | assumption)
                     obtain ⟨ad303, e303, hx303_0⟩ := Kd.at_int (Kd.R_reads' HO_15.out).2.2 x18_3 p303 q303
                     obtain rfl : ad299 = ad303 := (by injection e303)
                     replace p303 := eq_true p303
                     replace q303 := eq_true q303
                     have p304 : 0 ≤ ((rd t296 x18_3) : Int) := of_decide_eq_true (by first | (with_reducible assumption) | assumption)
                     have q304 : (rd t296 x18_3) < (t288.length : Int) := of_decide_eq_true (by first | (with_reducible assumption) | assumption)
                     obtain ⟨ad304, e304, hx304_0, hx304_1⟩ := at_T68 (Kd.R_reads' HO_295000.out).2.2 (rd t296 x18_3) p304 q304
                     obtain rfl : ad300 = ad304 := (by injection e304)
                     replace p304 := eq_true p304
                     replace q304 := eq_true q304
                     have p305 : 0 ≤ (x18_3 : Int) := of_decide_eq_true (by first | (with_reducible assumption) | assumption)
                     have q305 : x18_3 < (t296.length : Int) := of_decide_eq_true (by first | (with_reducible assumption) | assumption)
                     obtain ⟨ad305, e305, hx305_0⟩ := Kd.at_int (Kd.R_reads' HO_15.out).2.2 x18_3 p305 q305
                     obtain rfl : ad299 = ad305 := (by injection e305)
                     replace p305 := eq_true p305
                     replace q305 := eq_true q305
                     have p306 : 0 ≤ ((rd t296 x18_3) : Int) := of_decide_eq_true (by first | (with_reducible assumption) | assumption)
                     have q306 : (rd t296 x18_3) < (t291.length : Int) := of_decide_eq_true (by first | (with_reducible assumption) | assumption)
                     obtain ⟨ad306, e306, hx306_0⟩ := Kd.at_int (Kd.R_reads' HO_295001.out).2.2 (rd t296 x18_3) p306 q306
                     obtain rfl : ad302 = ad306 := (by injection e306)
                     replace p306 := eq_true p306
                     replace q306 := eq_true q306
                     refine start_ (n := 20) (S := fun w' => w'.cell? ⟨gb294, 0, none⟩ = some (.slice (some ad300) t288.length co62) ∧ w'.cell? ⟨gb294, 1, none⟩ = some (.slice (some ad302) t291.length co65) ∧ w'.cell? (ad299.add (x18_3).toNat) = some (.int .i64 (rd t296 x18_3)) ∧ w'.cell? (ad300.add (((rd t296 x18_3)).toNat * 2)) = some (.int .i64 ((rd_T68 t288 (rd t296 x18_3)).f0)) ∧ w'.cell? ⟨(ad300.add (((rd t296 x18_3)).toNat * 2)).block, (ad300.add (((rd t296 x18_3)).toNat * 2)).off + 1, none⟩ = some (.int .i64 ((rd_T68 t288 (rd t296 x18_3)).f1)) ∧ w'.cell? (ad299.add (x18_3).toNat) = some (.int .i64 (rd t296 x18_3)) ∧ w'.cell? (ad302.add ((rd t296 x18_3)).toNat) = some (.int .i64 (rd t291 (rd t296 x18_3)))) (ds := []) #[false, false, false, false, false, false, false, false, false, false, false, false, false, false, false, false, false, false, false, false] (by kernel_rfl) rfl rfl ⟨(blk_cell BK294.out 0).trans rfl, (blk_cell BK294.out 1).trans rfl, hx303_0, hx304_0, hx304_1, hx305_0, hx306_0⟩ (fun hHeld => ?_); refine with_tabW stopgatelaw04_CreditEdges.tab18 stopgatelaw04_CreditEdges.bits18 (fun HT_ HW_ => ?_)
                     generalize wr.drew = w79 at HO_15 HO_277000 HO_277001 HO_295000 HO_295001 BK276 BK294 HB hx303_0 hx304_0 hx304_1 hx305_0 hx306_0 hHeld ⊢
                     refine pure_ (i := 0) (N := some 110) (v := ?_) (a' := ?_) #[true, false, false, false, false, false, false, false, false, false, false, false, false, false, false, false, false, false, false, false] rfl rfl (any_of HT_.out (by kernel_rfl)) (fun _ _ _ h => h) (Or.inl ⟨by rfl, ?_⟩) ?_ ?_
                     rotate_left
                     ·intro w'
                      go_simp
                      with_reducible rfl
                     rotate_left
                     ·simp only [Act.put, List.setIfInBounds_toArray, List.set_cons_zero, List.set_cons_succ, i64_w, i32_w]
                      rfl
                     refine pure_ (i := 2) (N := some 112) (v := ?_) (a' := ?_) #[true, false, true, false, false, false, false, false, false, false, false, false, false, false, false, false, false, false, false, false] rfl rfl (any_of HT_.out (by kernel_rfl)) (fun _ _ _ h => h) (Or.inl ⟨by rfl, ?_⟩) ?_ ?_
                     rotate_left
                     ·intro w'
                      go_simp
                      with_reducible rfl
                     rotate_left
                     ·simp only [Act.put, List.setIfInBounds_toArray, List.set_cons_zero, List.set_cons_succ, i64_w, i32_w]
                      rfl
                     refine pure_ (i := 3) (N := some 113) (v := ?_) (a' := ?_) #[true, false, true, true, false, false, false, false, false, false, false, false, false, false, false, false, false, false, false, false] rfl rfl (any_of HT_.out (by kernel_rfl)) (fun _ _ _ h => h) (Or.inl ⟨by rfl, ?_⟩) ?_ ?_
                     rotate_left
                     ·intro w'
                      go_simp
                      with_reducible rfl
                     rotate_left
                     ·simp only [Act.put, List.setIfInBounds_toArray, List.set_cons_zero, List.set_cons_succ, i64_w, i32_w]
                      rfl
                     refine pure_ (i := 4) (N := some 114) (v := ?_) (a' := ?_) #[true, false, true, true, true, false, false, false, false, false, false, false, false, false, false, false, false, false, false, false] rfl rfl (any_of HT_.out (by kernel_rfl)) (fun _ _ _ h => h) (Or.inl ⟨by rfl, ?_⟩) ?_ ?_
                     rotate_left
                     ·intro w'
                      go_simp
                      with_reducible rfl
                     rotate_left
                     ·simp only [Act.put, List.setIfInBounds_toArray, List.set_cons_zero, List.set_cons_succ, i64_w, i32_w]
                      rfl
                     refine pure_ (i := 9) (N := some 119) (v := ?_) (a' := ?_) #[true, false, true, true, true, false, false, false, false, true, false, false, false, false, false, false, false, false, false, false] rfl rfl (any_of HT_.out (by kernel_rfl)) (fun _ _ _ h => h) (Or.inl ⟨by rfl, ?_⟩) ?_ ?_
                     rotate_left
                     ·intro w'
                      go_simp
                      with_reducible rfl
                     rotate_left
                     ·simp only [Act.put, List.setIfInBounds_toArray, List.set_cons_zero, List.set_cons_succ, i64_w, i32_w]
                      rfl
                     refine pure_ (i := 11) (N := some 121) (v := ?_) (a' := ?_) #[true, false, true, true, true, false, false, false, false, true, false, true, false, false, false, false, false, false, false, false] rfl rfl (any_of HT_.out (by kernel_rfl)) (fun _ _ _ h => h) (Or.inl ⟨by rfl, ?_⟩) ?_ ?_
                     rotate_left
                     ·intro w'
                      go_simp
                      with_reducible rfl
                     rotate_left
                     ·simp only [Act.put, List.setIfInBounds_toArray, List.set_cons_zero, List.set_cons_succ, i64_w, i32_w]
                      rfl
                     refine pure_ (i := 12) (N := some 122) (v := ?_) (a' := ?_) #[true, false, true, true, true, false, false, false, false, true, false, true, true, false, false, false, false, false, false, false] rfl rfl (any_of HT_.out (by kernel_rfl)) (fun _ _ _ h => h) (Or.inl ⟨by rfl, ?_⟩) ?_ ?_
                     rotate_left
                     ·intro w'
                      go_simp
                      with_reducible rfl
                     rotate_left
                     ·simp only [Act.put, List.setIfInBounds_toArray, List.set_cons_zero, List.set_cons_succ, i64_w, i32_w]
                      rfl
                     refine pure_ (i := 13) (N := some 123) (v := ?_) (a' := ?_) #[true, false, true, true, true, false, false, false, false, true, false, true, true, true, false, false, false, false, false, false] rfl rfl (any_of HT_.out (by kernel_rfl)) (fun _ _ _ h => h) (Or.inl ⟨by rfl, ?_⟩) ?_ ?_
                     rotate_left
                     ·intro w'
                      go_simp
                      with_reducible rfl
                     rotate_left
                     ·simp only [Act.put, List.setIfInBounds_toArray, List.set_cons_zero, List.set_cons_succ, i64_w, i32_w]
                      rfl
                     refine pure_ (i := 18) (N := some 128) (v := ?_) (a' := ?_) #[true, false, true, true, true, false, false, false, false, true, false, true, true, true, false, false, false, false, true, false] rfl rfl (any_of HT_.out (by kernel_rfl)) (fun _ _ _ h => h) (Or.inl ⟨by rfl, ?_⟩) ?_ ?_
                     rotate_left
                     ·intro w'
                      go_simp
                      with_reducible rfl
                     rotate_left
                     ·simp only [Act.put, List.setIfInBounds_toArray, List.set_cons_zero, List.set_cons_succ, i64_w, i32_w]
                      rfl
                     refine take_ (i := 1) (N := some 111) (v := ?_) (a' := ?_) #[true, true, true, true, true, false, false, false, false, true, false, true, true, true, false, false, false, false, true, false] rfl rfl (take_ofW HT_.out HW_.out (by kernel_rfl)) (fun _ _ _ h => h) (Or.inl ⟨by rfl, ?_⟩) hHeld ?_ ?_
                     rotate_left
                     ·rintro w' ⟨s0, s1, s2, s3, s4, s5, s6⟩
                      go_simp
                      with_reducible rfl
                     rotate_left
                     ·simp only [Act.put, List.setIfInBounds_toArray, List.set_cons_zero, List.set_cons_succ, i64_w, i32_w]
                      rfl
                     refine take_ (i := 5) (N := some 115) (v := ?_) (a' := ?_) #[true, true, true, true, true, true, false, false, false, true, false, true, true, true, false, false, false, false, true, false] rfl rfl (take_ofW HT_.out HW_.out (by kernel_rfl)) (fun _ _ _ h => h) (Or.inl ⟨by rfl, ?_⟩) hHeld ?_ ?_
                     rotate_left
                     ·rintro w' ⟨s0, s1, s2, s3, s4, s5, s6⟩
                      go_simp
                      with_reducible rfl
                     rotate_left
                     ·simp only [Act.put, List.setIfInBounds_toArray, List.set_cons_zero, List.set_cons_succ, i64_w, i32_w]
                      rfl
                     refine pure_ (i := 6) (N := some 116) (v := ?_) (a' := ?_) #[true, true, true, true, true, true, true, false, false, true, false, true, true, true, false, false, false, false, true, false] rfl rfl (any_of HT_.out (by kernel_rfl)) (fun _ _ _ h => h) (Or.inl ⟨by rfl, ?_⟩) ?_ ?_
                     rotate_left
                     ·intro w'
                      go_simp
                      with_reducible rfl
                     rotate_left
                     ·simp only [Act.put, List.setIfInBounds_toArray, List.set_cons_zero, List.set_cons_succ, i64_w, i32_w]
                      rfl
                     refine pure_ (i := 7) (N := some 117) (v := ?_) (a' := ?_) #[true, true, true, true, true, true, true, true, false, true, false, true, true, true, false, false, false, false, true, false] rfl rfl (any_of HT_.out (by kernel_rfl)) (fun _ _ _ h => h) (Or.inl ⟨by rfl, ?_⟩) ?_ ?_
                     rotate_left
                     ·intro w'
                      go_simp
                      with_reducible rfl
                     rotate_left
                     ·simp only [Act.put, List.setIfInBounds_toArray, List.set_cons_zero, List.set_cons_succ, i64_w, i32_w]
                      rfl
                     refine take_ (i := 8) (N := some 118) (v := ?_) (a' := ?_) #[true, true, true, true, true, true, true, true, true, true, false, true, true, true, false, false, false, false, true, false] rfl rfl (take_ofW HT_.out HW_.out (by kernel_rfl)) (fun _ _ _ h => h) (Or.inl ⟨by rfl, ?_⟩) hHeld ?_ ?_
                     rotate_left
                     ·rintro w' ⟨s0, s1, s2, s3, s4, s5, s6⟩
                      go_simp
                      with_reducible rfl
                     rotate_left
                     ·simp only [Act.put, List.setIfInBounds_toArray, List.set_cons_zero, List.set_cons_succ, i64_w, i32_w]
                      rfl
                     refine take_ (i := 10) (N := some 120) (v := ?_) (a' := ?_) #[true, true, true, true, true, true, true, true, true, true, true, true, true, true, false, false, false, false, true, false] rfl rfl (take_ofW HT_.out HW_.out (by kernel_rfl)) (fun _ _ _ h => h) (Or.inl ⟨by rfl, ?_⟩) hHeld ?_ ?_
                     rotate_left
                     ·rintro w' ⟨s0, s1, s2, s3, s4, s5, s6⟩
                      go_simp
                      with_reducible rfl
                     rotate_left
                     ·simp only [Act.put, List.setIfInBounds_toArray, List.set_cons_zero, List.set_cons_succ, i64_w, i32_w]
                      rfl
                     refine take_ (i := 14) (N := some 124) (v := ?_) (a' := ?_) #[true, true, true, true, true, true, true, true, true, true, true, true, true, true, true, false, false, false, true, false] rfl rfl (take_ofW HT_.out HW_.out (by kernel_rfl)) (fun _ _ _ h => h) (Or.inl ⟨by rfl, ?_⟩) hHeld ?_ ?_
                     rotate_left
                     ·rintro w' ⟨s0, s1, s2, s3, s4, s5, s6⟩
                      go_simp
                      with_reducible rfl
                     rotate_left
                     ·simp only [Act.put, List.setIfInBounds_toArray, List.set_cons_zero, List.set_cons_succ, i64_w, i32_w]
                      rfl
                     refine pure_ (i := 15) (N := some 125) (v := ?_) (a' := ?_) #[true, true, true, true, true, true, true, true, true, true, true, true, true, true, true, true, false, false, true, false] rfl rfl (any_of HT_.out (by kernel_rfl)) (fun _ _ _ h => h) (Or.inl ⟨by rfl, ?_⟩) ?_ ?_
                     rotate_left
                     ·intro w'
                      go_simp
                      with_reducible rfl
                     rotate_left
                     ·simp only [Act.put, List.setIfInBounds_toArray, List.set_cons_zero, List.set_cons_succ, i64_w, i32_w]
                      rfl
                     refine take_ (i := 16) (N := some 126) (v := ?_) (a' := ?_) #[true, true, true, true, true, true, true, true, true, true, true, true, true, true, true, true, true, false, true, false] rfl rfl (take_ofW HT_.out HW_.out (by kernel_rfl)) (fun _ _ _ h => h) (Or.inl ⟨by rfl, ?_⟩) hHeld ?_ ?_
                     rotate_left
                     ·rintro w' ⟨s0, s1, s2, s3, s4, s5, s6⟩
                      go_simp
                      with_reducible rfl
                     rotate_left
                     ·simp only [Act.put, List.setIfInBounds_toArray, List.set_cons_zero, List.set_cons_succ, i64_w, i32_w]
                      rfl
                     refine pure_ (i := 17) (N := some 127) (v := ?_) (a' := ?_) #[true, true, true, true, true, true, true, true, true, true, true, true, true, true, true, true, true, true, true, false] rfl rfl (any_of HT_.out (by kernel_rfl)) (fun _ _ _ h => h) (Or.inl ⟨by rfl, ?_⟩) ?_ ?_
                     rotate_left
                     ·intro w'
                      go_simp
                      with_reducible rfl
                     rotate_left
                     ·simp only [Act.put, List.setIfInBounds_toArray, List.set_cons_zero, List.set_cons_succ, i64_w, i32_w]
                      rfl
                     refine pure_ (i := 19) (N := some 129) (v := ?_) (a' := ?_) #[true, true, true, true, true, true, true, true, true, true, true, true, true, true, true, true, true, true, true, true] rfl rfl (any_of HT_.out (by kernel_rfl)) (fun _ _ _ h => h) (Or.inl ⟨by rfl, ?_⟩) ?_ ?_
                     rotate_left
                     ·intro w'
                      go_simp
                      with_reducible rfl
                     rotate_left
                     ·simp only [Act.put, List.setIfInBounds_toArray, List.set_cons_zero, List.set_cons_succ, i64_w, i32_w]
                      rfl
                     refine done_ (done_of HT_.out (by kernel_rfl)) ?_
                     try go_wp2
                     go_roundg k3
                     case measure => have := HK1.out; have := HJ16.out; have := HK3.out; omega
                     case rel => exact ⟨(x16_3), (x17_3), (wrap64 (x18_3 + 1)), (by first | rfl | (simp; done) | (simp [*]; done)), (by first | rfl | (simp; done) | (simp [*]; done)), (by first | rfl | (simp; done) | (simp [*]; done)), H', ⟨by have := HK1.out; have := HJ16.out; have := HK3.out; omega⟩, ⟨by (with_reducible repeat (first | apply Kd.R_alloc | apply Kd.R_drewN | apply Kd.R_drew)); exact HO_15.out⟩, ⟨by (with_reducible repeat (first | apply Kd.V_alloc | apply Kd.V_drewN | apply Kd.V_drew)); exact HO_277000.out⟩, ⟨by (with_reducible repeat (first | apply Kd.V_alloc | apply Kd.V_drewN | apply Kd.V_drew)); exact HO_277001.out⟩, ⟨by (with_reducible repeat (first | apply Kd.R_alloc | apply Kd.R_drewN | apply Kd.R_drew)); exact HO_295000.out⟩, ⟨by (with_reducible repeat (first | apply Kd.R_alloc | apply Kd.R_drewN | apply Kd.R_drew)); exact HO_295001.out⟩, ⟨by (with_reducible repeat (first | refine blk_drewN ?_ _ | refine blk_drew ?_ | refine blk_alloc ?_ _)); exact BK276.out⟩, ⟨by (with_reducible repeat (first | refine blk_drewN ?_ _ | refine blk_drew ?_ | refine blk_alloc ?_ _)); exact BK294.out⟩, ⟨by repeat (first | (with_reducible first | exact HB.out | apply below_alloc | apply pw_below_drewN | apply below_drew1 | refine below_set ?_ GE276.out | refine below_set ?_ GE294.out) | exact HB.out)⟩⟩
                   ·rw [if_neg c75] at H
                    exact absurd H (by simp)
                  ·rw [if_neg c74] at H
                   exact absurd H (by simp)
                 ·rw [if_neg c73] at H
                  exact absurd H (by simp)
                ·rw [if_neg c72] at H
                 exact absurd H (by simp)
               ·rw [if_neg c71] at H
                have c71b0 : decide (x18_3 < (t296.length : Int)) = false := decide_eq_false c71
                clear c71
                replace H := Option.bind_eq_some_iff.mp H
                obtain ⟨⟨t311, t314, t317, t318⟩, A800, H⟩ := H
                replace H : ((credit_Reserve.f k3 x277000_1 x277001_1 (wrap64 (Int.tmod (IntKind.u64.wrap (a1)) (IntKind.u64.wrap ((t264.length : Int))))) (wrap64 (x16_3 + 1))).bind fun bt320 => (if t317 = 0 then (if t318 = (-1) then (if bt320.2.2.1 = (wrap64 (12 + x17_3)) then (if 0 ≤ x17_3 then (if x17_3 < (t296.length : Int) then (some (bt320.2.2.2 == (rd t296 x17_3))) else (none)) else (none)) else (none)) else (none)) else (none))) = some r := H
                have A80 := Aside0.mk A800
                clear A800
                replace H := Option.bind_eq_some_iff.mp H
                obtain ⟨⟨t320, t323, t326, t327⟩, A810, H⟩ := H
                replace H : (if t317 = 0 then (if t318 = (-1) then (if t326 = (wrap64 (12 + x17_3)) then (if 0 ≤ x17_3 then (if x17_3 < (t296.length : Int) then (some (t327 == (rd t296 x17_3))) else (none)) else (none)) else (none)) else (none)) else (none)) = some r := H
                have A81 := Aside0.mk A810
                clear A810
                by_cases c82 : t317 = 0
                ·rw [if_pos c82] at H
                 have c82b0 : (t317 == 0) = true := beq_iff_eq.mpr c82
                 have c82b1 : (t317 != 0) = false := bne_eq_false_iff_eq.mpr c82
                 clear c82
                 by_cases c83 : t318 = (-1)
                 ·rw [if_pos c83] at H
                  have c83b0 : (t318 == (-1)) = true := beq_iff_eq.mpr c83
                  have c83b1 : (t318 != (-1)) = false := bne_eq_false_iff_eq.mpr c83
                  clear c83
                  by_cases c84 : t326 = (wrap64 (12 + x17_3))
                  ·rw [if_pos c84] at H
                   have c84b0 : (t326 == (wrap64 (12 + x17_3))) = true := beq_iff_eq.mpr c84
                   have c84b1 : (t326 != (wrap64 (12 + x17_3))) = false := bne_eq_false_iff_eq.mpr c84
                   clear c84
                   by_cases c85 : 0 ≤ x17_3
                   ·rw [if_pos c85] at H
                    have c85b0 : decide (0 ≤ x17_3) = true := decide_eq_true c85
                    clear c85
                    by_cases c86 : x17_3 < (t296.length : Int)
                    ·rw [if_pos c86] at H
                     have c86b0 : decide (x17_3 < (t296.length : Int)) = true := decide_eq_true c86
                     clear c86
                     obtain rfl := Option.some.inj H
                     have hnb87 := NB276_294.out
                     have hnc87 := NB294_276.out
                     have hcz88_0 : wr.cell? ⟨gb276, 0, none⟩ = some (.slice Ao58 x277000_1.length co58) := (blk_cell BK276.out 0).trans rfl
                     have hcz88_1 : wr.cell? ⟨gb276, 1, none⟩ = some (.slice Ao59 x277001_1.length co59) := (blk_cell BK276.out 1).trans rfl
                     have hfz88_0 := blk_frozen BK276.out 0
                     have hfz88_1 := blk_frozen BK276.out 1
                     go_wp2_with (first | ((with_reducible refine gate_callee (f := 48) rfl ?_); refine goesL_ (some 153) rfl rfl Try.func48 (by kernel_rfl) rfl #[.agg #[.slice Ao58 x277000_1.length co58, .slice Ao59 x277001_1.length co59], .int .i64 (wrap64 (Int.tmod (IntKind.u64.wrap (a1)) (IntKind.u64.wrap ((t264.length : Int))))), .int .i64 x16_3] rfl (by (try simp only [List.map_toArray, List.map_cons, List.map_nil]); first | done | rfl | (simp only [List.length_drop, List.length_take]; rfl)) ?_; (with_reducible refine (credit_Reserve.calls k3 (fun k_ => (some k_ ≠ (.slice (some ad299) t296.length co70 : Value).ownBlock ∧ (some k_ ≠ (.slice (some ad300) t288.length co62 : Value).ownBlock ∧ (some k_ ≠ (.slice (some ad302) t291.length co65 : Value).ownBlock ∧ (k_ ≠ gb276 ∧ k_ ≠ gb294))))) _ _ x277000_1 (fun k_ => (some k_ ≠ (.slice (some ad299) t296.length co70 : Value).ownBlock ∧ (some k_ ≠ (.slice (some ad300) t288.length co62 : Value).ownBlock ∧ (some k_ ≠ (.slice (some ad302) t291.length co65 : Value).ownBlock ∧ (k_ ≠ gb276 ∧ k_ ≠ gb294))))) _ _ x277001_1 (wrap64 (Int.tmod (IntKind.u64.wrap (a1)) (IntKind.u64.wrap ((t264.length : Int))))) x16_3 t311 t314 t317 t318 _ ?side1 ?side2 A80.out).mono ?_); (case side1 => exact HO_277000.out); (case side2 => exact HO_277001.out); rintro e w89 ⟨v312, v315, rfl, ho0, ho1, hb⟩; refine ⟨_, rfl, ?_⟩; have n0_ := Aside0.mk (Kd.R_below (by (with_reducible repeat (first | apply Kd.R_alloc | apply Kd.R_drewN | apply Kd.R_drew)); exact HO_15.out) hb); have n1_ := Aside0.mk (Kd.V_below (by (with_reducible repeat (first | apply Kd.V_alloc | apply Kd.V_drewN | apply Kd.V_drew)); exact HO_277000.out) hb); have n2_ := Aside0.mk (Kd.V_below (by (with_reducible repeat (first | apply Kd.V_alloc | apply Kd.V_drewN | apply Kd.V_drew)); exact HO_277001.out) hb); have n3_ := Aside0.mk (Kd.R_below (by (with_reducible repeat (first | apply Kd.R_alloc | apply Kd.R_drewN | apply Kd.R_drew)); exact HO_295000.out) hb); have n4_ := Aside0.mk (Kd.R_below (by (with_reducible repeat (first | apply Kd.R_alloc | apply Kd.R_drewN | apply Kd.R_drew)); exact HO_295001.out) hb); have n5_ := Aside0.mk (Kd.V_lower (Kd.V_mono (ok' := fun k_ => some k_ ≠ (.slice (some ad299) t296.length co70 : Value).ownBlock ∧ some k_ ≠ (.slice (some ad300) t288.length co62 : Value).ownBlock ∧ some k_ ≠ (.slice (some ad302) t291.length co65 : Value).ownBlock ∧ k_ ≠ gb276 ∧ k_ ≠ gb294) ho0 (fun k_ hk_ => ⟨Or.elim hk_ (fun hs_ => Or.elim hs_ (fun hs_ => hs_.1) (fun hs_ => hs_.1)) (fun hn_ => (Kd.fresh' (Kd.R_lt (by (with_reducible repeat (first | apply Kd.R_alloc | apply Kd.R_drewN | apply Kd.R_drew)); exact HO_15.out)) k_ hn_)), Or.elim hk_ (fun hs_ => Or.elim hs_ (fun hs_ => hs_.2.1) (fun hs_ => hs_.2.1)) (fun hn_ => (Kd.fresh' (Kd.R_lt (by (with_reducible repeat (first | apply Kd.R_alloc | apply Kd.R_drewN | apply Kd.R_drew)); exact HO_295000.out)) k_ hn_)), Or.elim hk_ (fun hs_ => Or.elim hs_ (fun hs_ => hs_.2.2.1) (fun hs_ => hs_.2.2.1)) (fun hn_ => (Kd.fresh' (Kd.R_lt (by (with_reducible repeat (first | apply Kd.R_alloc | apply Kd.R_drewN | apply Kd.R_drew)); exact HO_295001.out)) k_ hn_)), Or.elim hk_ (fun hs_ => Or.elim hs_ (fun hs_ => hs_.2.2.2.1) (fun hs_ => hs_.2.2.2.1)) (fun hn_ => (Kd.freshB (g := gb276) (o := .cells #[.slice Ao58 x277000_1.length co58, .slice Ao59 x277001_1.length co59] 61 (0, 0)) (by (with_reducible repeat (first | refine blk_drewN ?_ _ | refine blk_drew ?_ | refine blk_alloc ?_ _)); exact BK276.out) k_ hn_)), Or.elim hk_ (fun hs_ => Or.elim hs_ (fun hs_ => hs_.2.2.2.2) (fun hs_ => hs_.2.2.2.2)) (fun hn_ => (Kd.freshB (g := gb294) (o := .cells #[.slice (some ad300) t288.length co62, .slice (some ad302) t291.length co65] 58 (0, 0)) (by (with_reducible repeat (first | refine blk_drewN ?_ _ | refine blk_drew ?_ | refine blk_alloc ?_ _)); exact BK294.out) k_ hn_))⟩)) (below_size (by repeat (first | (with_reducible first | exact HB.out | apply below_alloc | apply pw_below_drewN | apply below_drew1 | refine below_set ?_ GE276.out | refine below_set ?_ GE294.out) | exact HB.out)))); have n6_ := Aside0.mk (Kd.V_lower (Kd.V_mono (ok' := fun k_ => some k_ ≠ (.slice (some ad299) t296.length co70 : Value).ownBlock ∧ some k_ ≠ (.slice (some ad300) t288.length co62 : Value).ownBlock ∧ some k_ ≠ (.slice (some ad302) t291.length co65 : Value).ownBlock ∧ k_ ≠ gb276 ∧ k_ ≠ gb294) ho1 (fun k_ hk_ => ⟨Or.elim hk_ (fun hs_ => Or.elim hs_ (fun hs_ => hs_.1) (fun hs_ => hs_.1)) (fun hn_ => (Kd.fresh' (Kd.R_lt (by (with_reducible repeat (first | apply Kd.R_alloc | apply Kd.R_drewN | apply Kd.R_drew)); exact HO_15.out)) k_ hn_)), Or.elim hk_ (fun hs_ => Or.elim hs_ (fun hs_ => hs_.2.1) (fun hs_ => hs_.2.1)) (fun hn_ => (Kd.fresh' (Kd.R_lt (by (with_reducible repeat (first | apply Kd.R_alloc | apply Kd.R_drewN | apply Kd.R_drew)); exact HO_295000.out)) k_ hn_)), Or.elim hk_ (fun hs_ => Or.elim hs_ (fun hs_ => hs_.2.2.1) (fun hs_ => hs_.2.2.1)) (fun hn_ => (Kd.fresh' (Kd.R_lt (by (with_reducible repeat (first | apply Kd.R_alloc | apply Kd.R_drewN | apply Kd.R_drew)); exact HO_295001.out)) k_ hn_)), Or.elim hk_ (fun hs_ => Or.elim hs_ (fun hs_ => hs_.2.2.2.1) (fun hs_ => hs_.2.2.2.1)) (fun hn_ => (Kd.freshB (g := gb276) (o := .cells #[.slice Ao58 x277000_1.length co58, .slice Ao59 x277001_1.length co59] 61 (0, 0)) (by (with_reducible repeat (first | refine blk_drewN ?_ _ | refine blk_drew ?_ | refine blk_alloc ?_ _)); exact BK276.out) k_ hn_)), Or.elim hk_ (fun hs_ => Or.elim hs_ (fun hs_ => hs_.2.2.2.2) (fun hs_ => hs_.2.2.2.2)) (fun hn_ => (Kd.freshB (g := gb294) (o := .cells #[.slice (some ad300) t288.length co62, .slice (some ad302) t291.length co65] 58 (0, 0)) (by (with_reducible repeat (first | refine blk_drewN ?_ _ | refine blk_drew ?_ | refine blk_alloc ?_ _)); exact BK294.out) k_ hn_))⟩)) (below_size (by repeat (first | (with_reducible first | exact HB.out | apply below_alloc | apply pw_below_drewN | apply below_drew1 | refine below_set ?_ GE276.out | refine below_set ?_ GE294.out) | exact HB.out)))); have n7_ := Aside0.mk (blk_below (g := gb276) (o := .cells #[.slice Ao58 x277000_1.length co58, .slice Ao59 x277001_1.length co59] 61 (0, 0)) (by (with_reducible repeat (first | refine blk_drewN ?_ _ | refine blk_drew ?_ | refine blk_alloc ?_ _)); exact BK276.out) hb); have n8_ := Aside0.mk (blk_below (g := gb294) (o := .cells #[.slice (some ad300) t288.length co62, .slice (some ad302) t291.length co65] 58 (0, 0)) (by (with_reducible repeat (first | refine blk_drewN ?_ _ | refine blk_drew ?_ | refine blk_alloc ?_ _)); exact BK294.out) hb); have n9_ := Aside0.mk (below_step (by repeat (first | (with_reducible first | exact HB.out | apply below_alloc | apply pw_below_drewN | apply below_drew1 | refine below_set ?_ GE276.out | refine below_set ?_ GE294.out) | exact HB.out)) hb); clear HO_15; clear HO_277000; clear HO_277001; clear HO_295000; clear HO_295001; clear BK276; clear BK294; clear HB; have HO_15 := n0_; have HO_277000 := n1_; have HO_277001 := n2_; have HO_295000 := n3_; have HO_295001 := n4_; have HO313 := n5_; have HO316 := n6_; have BK276 := n7_; have BK294 := n8_; have HB := n9_; clear n0_ n1_ n2_ n3_ n4_ n5_ n6_ n7_ n8_ n9_; (try clear hb); (try clear hb2); (try clear hk); (try clear hi); (try clear ho0); (try clear ho1)) | ((with_reducible refine gate_dst (N := 19) rfl ?_); (try (refine gate_guard (by rfl) ?_; dsimp only)); refine box_event ?hg (N := 19) ?hd (cs := #[.slice none 0 0, .slice none 0 0]) (t := 61) ?hr ?_; (case hd => rfl); (case hg => rfl); (case hr => first | (go_simp; done) | (go_simp; rfl)); intro gb319 hg w90 hbox hb; have n0_ := Aside0.mk (Kd.R_below (by (with_reducible repeat (first | apply Kd.R_alloc | apply Kd.R_drewN | apply Kd.R_drew)); exact HO_15.out) hb); have n1_ := Aside0.mk (Kd.V_below (Kd.V_elderB (by (with_reducible repeat (first | apply Kd.V_alloc | apply Kd.V_drewN | apply Kd.V_drew)); exact HO_277000.out) gb319 (Nat.le_of_eq hg.symm)) hb); have n2_ := Aside0.mk (Kd.V_below (Kd.V_elderB (by (with_reducible repeat (first | apply Kd.V_alloc | apply Kd.V_drewN | apply Kd.V_drew)); exact HO_277001.out) gb319 (Nat.le_of_eq hg.symm)) hb); have n3_ := Aside0.mk (Kd.R_below (by (with_reducible repeat (first | apply Kd.R_alloc | apply Kd.R_drewN | apply Kd.R_drew)); exact HO_295000.out) hb); have n4_ := Aside0.mk (Kd.R_below (by (with_reducible repeat (first | apply Kd.R_alloc | apply Kd.R_drewN | apply Kd.R_drew)); exact HO_295001.out) hb); have n5_ := Aside0.mk (Kd.V_below (Kd.V_elderB (by (with_reducible repeat (first | apply Kd.V_alloc | apply Kd.V_drewN | apply Kd.V_drew)); exact HO313.out) gb319 (Nat.le_of_eq hg.symm)) hb); have n6_ := Aside0.mk (Kd.V_below (Kd.V_elderB (by (with_reducible repeat (first | apply Kd.V_alloc | apply Kd.V_drewN | apply Kd.V_drew)); exact HO316.out) gb319 (Nat.le_of_eq hg.symm)) hb); have n7_ := Aside0.mk (blk_below (g := gb276) (o := .cells #[.slice Ao58 x277000_1.length co58, .slice Ao59 x277001_1.length co59] 61 (0, 0)) (by (with_reducible repeat (first | refine blk_drewN ?_ _ | refine blk_drew ?_ | refine blk_alloc ?_ _)); exact BK276.out) hb); have n8_ := Aside0.mk (blk_below (g := gb294) (o := .cells #[.slice (some ad300) t288.length co62, .slice (some ad302) t291.length co65] 58 (0, 0)) (by (with_reducible repeat (first | refine blk_drewN ?_ _ | refine blk_drew ?_ | refine blk_alloc ?_ _)); exact BK294.out) hb); have n9_ := Aside0.mk (below_step (by repeat (first | (with_reducible first | exact HB.out | apply below_alloc | apply pw_below_drewN | apply below_drew1 | refine below_set ?_ GE276.out | refine below_set ?_ GE294.out) | exact HB.out)) hb); have n10_ := Aside0.mk (hbox); have n11_ := Aside0.mk ((by rw [hg]; exact (below_size (by repeat (first | (with_reducible first | exact HB.out | apply below_alloc | apply pw_below_drewN | apply below_drew1 | refine below_set ?_ GE276.out | refine below_set ?_ GE294.out) | exact HB.out))) : w.heap.size ≤ gb319)); have n12_ := Aside0.mk ((by rw [hg]; exact (below_size (by repeat (first | (with_reducible first | exact HB.out | apply below_alloc | apply pw_below_drewN | apply below_drew1 | refine below_set ?_ GE276.out | refine below_set ?_ GE294.out) | exact HB.out))) : w.heap.size ≤ gb319)); have n13_ := Aside0.mk ((by rw [hg]; exact Nat.ne_of_lt (blk_lt (g := gb276) (o := .cells #[.slice Ao58 x277000_1.length co58, .slice Ao59 x277001_1.length co59] 61 (0, 0)) (by (with_reducible repeat (first | refine blk_drewN ?_ _ | refine blk_drew ?_ | refine blk_alloc ?_ _)); exact BK276.out)) : gb276 ≠ gb319)); have n14_ := Aside0.mk ((by rw [hg]; exact Nat.ne_of_gt (blk_lt (g := gb276) (o := .cells #[.slice Ao58 x277000_1.length co58, .slice Ao59 x277001_1.length co59] 61 (0, 0)) (by (with_reducible repeat (first | refine blk_drewN ?_ _ | refine blk_drew ?_ | refine blk_alloc ?_ _)); exact BK276.out)) : gb319 ≠ gb276)); have n15_ := Aside0.mk ((by rw [hg]; exact Nat.ne_of_lt (blk_lt (g := gb294) (o := .cells #[.slice (some ad300) t288.length co62, .slice (some ad302) t291.length co65] 58 (0, 0)) (by (with_reducible repeat (first | refine blk_drewN ?_ _ | refine blk_drew ?_ | refine blk_alloc ?_ _)); exact BK294.out)) : gb294 ≠ gb319)); have n16_ := Aside0.mk ((by rw [hg]; exact Nat.ne_of_gt (blk_lt (g := gb294) (o := .cells #[.slice (some ad300) t288.length co62, .slice (some ad302) t291.length co65] 58 (0, 0)) (by (with_reducible repeat (first | refine blk_drewN ?_ _ | refine blk_drew ?_ | refine blk_alloc ?_ _)); exact BK294.out)) : gb319 ≠ gb294)); clear HO_15; clear HO_277000; clear HO_277001; clear HO_295000; clear HO_295001; clear HO313; clear HO316; clear BK276; clear BK294; clear HB; have HO_15 := n0_; have HO_277000 := n1_; have HO_277001 := n2_; have HO_295000 := n3_; have HO_295001 := n4_; have HO313 := n5_; have HO316 := n6_; have BK276 := n7_; have BK294 := n8_; have HB := n9_; have BK319 := n10_; have GW319 := n11_; have GE319 := n12_; have NB276_319 := n13_; have NB319_276 := n14_; have NB294_319 := n15_; have NB319_294 := n16_; clear n0_ n1_ n2_ n3_ n4_ n5_ n6_ n7_ n8_ n9_ n10_ n11_ n12_ n13_ n14_ n15_ n16_; clear hb hbox hg; obtain ⟨Ao91, co91, eo91⟩ := Kd.V_slice HO313.out; subst eo91; have hnb92 := NB319_276.out; have hnc92 := NB276_319.out; have hnb93 := NB319_294.out; have hnc93 := NB294_319.out; have hcz94_0 : w90.cell? ⟨gb319, 0, none⟩ = some (.slice none 0 0) := (blk_cell BK319.out 0).trans rfl; have hcz94_1 : w90.cell? ⟨gb319, 1, none⟩ = some (.slice none 0 0) := (blk_cell BK319.out 1).trans rfl; have hfz94_0 := blk_frozen BK319.out 0; have hfz94_1 := blk_frozen BK319.out 1; obtain ⟨Ao95, co95, eo95⟩ := Kd.V_slice HO316.out; subst eo95) | ((with_reducible refine gate_store (t := 61) (p := 19) rfl ?_); refine store_event (t := 61) (p := 19) (v := ?vo_w96) (w1 := ((w90.setCell ⟨gb319, 0, none⟩ (.slice Ao91 t311.length co91)).setCell ⟨gb319, 1, none⟩ (.slice Ao95 t314.length co95))) ?hg ?ho ?hn ?hr ?_; (case ho => rfl); (case hg => rfl); (case hn => rfl); (case hr => first | (go_simp; done) | (go_simp; rfl)); intro w96 hw; have n0_ : Aside0 (Kd.R (Kd.int .i64) 3 w96 w.heap.size (fun _ => True) (.slice (some ad299) t296.length co70) t296) := ⟨(by rw [hw]; exact (by (with_reducible repeat (first | apply Kd.R_alloc | apply Kd.R_drewN | apply Kd.R_drew)); exact Kd.R_mono (Kd.R_far (p := ⟨gb319, 1, none⟩) (Kd.R_far (p := ⟨gb319, 0, none⟩) (Kd.R_types HO_15.out BK319.out (by decide)) (fun _ hk => hk.2) (.slice Ao91 t311.length co91)) (fun _ hk => hk.2) (.slice Ao95 t314.length co95)) (fun _ hk => trivial)))⟩; have n1_ : Aside0 (Kd.V k43 43 w96 w.heap.size (fun k_ => some k_ ≠ (.slice (some ad299) t296.length co70 : Value).ownBlock ∧ some k_ ≠ (.slice (some ad300) t288.length co62 : Value).ownBlock ∧ some k_ ≠ (.slice (some ad302) t291.length co65 : Value).ownBlock ∧ k_ ≠ gb276 ∧ k_ ≠ gb294 ∧ k_ ≠ gb319) (.slice Ao58 x277000_1.length co58) x277000_1) := ⟨(by rw [hw]; exact (by (with_reducible repeat (first | apply Kd.V_alloc | apply Kd.V_drewN | apply Kd.V_drew)); exact Kd.V_mono (Kd.V_far (p := ⟨gb319, 1, none⟩) (Kd.V_far (p := ⟨gb319, 0, none⟩) (Kd.V_mono HO_277000.out (fun k_ hk => (⟨hk, hk.2⟩ : _ ∧ k_ ≠ gb319))) (fun _ hk => hk.2) (.slice Ao91 t311.length co91)) (fun _ hk => hk.2) (.slice Ao95 t314.length co95)) (fun _ hk => ⟨hk.1.1.1, ⟨hk.1.1.2.1, ⟨hk.1.1.2.2.1, ⟨hk.1.1.2.2.2.1, ⟨hk.1.1.2.2.2.2, hk.1.2⟩⟩⟩⟩⟩)))⟩; have n2_ : Aside0 (Kd.V (Kd.int .i64) 2 w96 w.heap.size (fun k_ => some k_ ≠ (.slice (some ad299) t296.length co70 : Value).ownBlock ∧ some k_ ≠ (.slice (some ad300) t288.length co62 : Value).ownBlock ∧ some k_ ≠ (.slice (some ad302) t291.length co65 : Value).ownBlock ∧ k_ ≠ gb276 ∧ k_ ≠ gb294 ∧ k_ ≠ gb319) (.slice Ao59 x277001_1.length co59) x277001_1) := ⟨(by rw [hw]; exact (by (with_reducible repeat (first | apply Kd.V_alloc | apply Kd.V_drewN | apply Kd.V_drew)); exact Kd.V_mono (Kd.V_far (p := ⟨gb319, 1, none⟩) (Kd.V_far (p := ⟨gb319, 0, none⟩) (Kd.V_mono HO_277001.out (fun k_ hk => (⟨hk, hk.2⟩ : _ ∧ k_ ≠ gb319))) (fun _ hk => hk.2) (.slice Ao91 t311.length co91)) (fun _ hk => hk.2) (.slice Ao95 t314.length co95)) (fun _ hk => ⟨hk.1.1.1, ⟨hk.1.1.2.1, ⟨hk.1.1.2.2.1, ⟨hk.1.1.2.2.2.1, ⟨hk.1.1.2.2.2.2, hk.1.2⟩⟩⟩⟩⟩)))⟩; have n3_ : Aside0 (Kd.R k68 68 w96 w.heap.size (fun _ => True) (.slice (some ad300) t288.length co62) t288) := ⟨(by rw [hw]; exact (by (with_reducible repeat (first | apply Kd.R_alloc | apply Kd.R_drewN | apply Kd.R_drew)); exact Kd.R_mono (Kd.R_far (p := ⟨gb319, 1, none⟩) (Kd.R_far (p := ⟨gb319, 0, none⟩) (Kd.R_types HO_295000.out BK319.out (by decide)) (fun _ hk => hk.2) (.slice Ao91 t311.length co91)) (fun _ hk => hk.2) (.slice Ao95 t314.length co95)) (fun _ hk => trivial)))⟩; have n4_ : Aside0 (Kd.R (Kd.int .i64) 2 w96 w.heap.size (fun _ => True) (.slice (some ad302) t291.length co65) t291) := ⟨(by rw [hw]; exact (by (with_reducible repeat (first | apply Kd.R_alloc | apply Kd.R_drewN | apply Kd.R_drew)); exact Kd.R_mono (Kd.R_far (p := ⟨gb319, 1, none⟩) (Kd.R_far (p := ⟨gb319, 0, none⟩) (Kd.R_types HO_295001.out BK319.out (by decide)) (fun _ hk => hk.2) (.slice Ao91 t311.length co91)) (fun _ hk => hk.2) (.slice Ao95 t314.length co95)) (fun _ hk => trivial)))⟩; have n5_ : Aside0 (Kd.V k43 43 w96 w.heap.size (fun k_ => some k_ ≠ (.slice (some ad299) t296.length co70 : Value).ownBlock ∧ some k_ ≠ (.slice (some ad300) t288.length co62 : Value).ownBlock ∧ some k_ ≠ (.slice (some ad302) t291.length co65 : Value).ownBlock ∧ k_ ≠ gb276 ∧ k_ ≠ gb294 ∧ k_ ≠ gb319) (.slice Ao91 t311.length co91) t311) := ⟨(by rw [hw]; exact (by (with_reducible repeat (first | apply Kd.V_alloc | apply Kd.V_drewN | apply Kd.V_drew)); exact Kd.V_mono (Kd.V_far (p := ⟨gb319, 1, none⟩) (Kd.V_far (p := ⟨gb319, 0, none⟩) (Kd.V_mono HO313.out (fun k_ hk => (⟨hk, hk.2⟩ : _ ∧ k_ ≠ gb319))) (fun _ hk => hk.2) (.slice Ao91 t311.length co91)) (fun _ hk => hk.2) (.slice Ao95 t314.length co95)) (fun _ hk => ⟨hk.1.1.1, ⟨hk.1.1.2.1, ⟨hk.1.1.2.2.1, ⟨hk.1.1.2.2.2.1, ⟨hk.1.1.2.2.2.2, hk.1.2⟩⟩⟩⟩⟩)))⟩; have n6_ : Aside0 (Kd.V (Kd.int .i64) 2 w96 w.heap.size (fun k_ => some k_ ≠ (.slice (some ad299) t296.length co70 : Value).ownBlock ∧ some k_ ≠ (.slice (some ad300) t288.length co62 : Value).ownBlock ∧ some k_ ≠ (.slice (some ad302) t291.length co65 : Value).ownBlock ∧ k_ ≠ gb276 ∧ k_ ≠ gb294 ∧ k_ ≠ gb319) (.slice Ao95 t314.length co95) t314) := ⟨(by rw [hw]; exact (by (with_reducible repeat (first | apply Kd.V_alloc | apply Kd.V_drewN | apply Kd.V_drew)); exact Kd.V_mono (Kd.V_far (p := ⟨gb319, 1, none⟩) (Kd.V_far (p := ⟨gb319, 0, none⟩) (Kd.V_mono HO316.out (fun k_ hk => (⟨hk, hk.2⟩ : _ ∧ k_ ≠ gb319))) (fun _ hk => hk.2) (.slice Ao91 t311.length co91)) (fun _ hk => hk.2) (.slice Ao95 t314.length co95)) (fun _ hk => ⟨hk.1.1.1, ⟨hk.1.1.2.1, ⟨hk.1.1.2.2.1, ⟨hk.1.1.2.2.2.1, ⟨hk.1.1.2.2.2.2, hk.1.2⟩⟩⟩⟩⟩)))⟩; have n7_ : Aside0 (w96.heap[gb276]? = some (.cells #[.slice Ao58 x277000_1.length co58, .slice Ao59 x277001_1.length co59] 61 (0, 0))) := ⟨(by rw [hw]; exact (by (with_reducible repeat (first | refine blk_drewN ?_ _ | refine blk_drew ?_ | refine blk_alloc ?_ _)); refine blk_far ?_ NB276_319.out _; (with_reducible repeat (first | refine blk_drewN ?_ _ | refine blk_drew ?_ | refine blk_alloc ?_ _)); refine blk_far ?_ NB276_319.out _; (with_reducible repeat (first | refine blk_drewN ?_ _ | refine blk_drew ?_ | refine blk_alloc ?_ _)); exact BK276.out))⟩; have n8_ : Aside0 (w96.heap[gb294]? = some (.cells #[.slice (some ad300) t288.length co62, .slice (some ad302) t291.length co65] 58 (0, 0))) := ⟨(by rw [hw]; exact (by (with_reducible repeat (first | refine blk_drewN ?_ _ | refine blk_drew ?_ | refine blk_alloc ?_ _)); refine blk_far ?_ NB294_319.out _; (with_reducible repeat (first | refine blk_drewN ?_ _ | refine blk_drew ?_ | refine blk_alloc ?_ _)); refine blk_far ?_ NB294_319.out _; (with_reducible repeat (first | refine blk_drewN ?_ _ | refine blk_drew ?_ | refine blk_alloc ?_ _)); exact BK294.out))⟩; have n9_ : Aside0 (w96.heap[gb319]? = some (.cells #[.slice Ao91 t311.length co91, .slice Ao95 t314.length co95] 61 (0, 0))) := ⟨(by rw [hw]; exact (by (with_reducible repeat (first | refine blk_drewN ?_ _ | refine blk_drew ?_ | refine blk_alloc ?_ _)); refine blk_put (cs := #[.slice Ao91 t311.length co91, .slice none 0 0]) ?_ 1 _ rfl; (with_reducible repeat (first | refine blk_drewN ?_ _ | refine blk_drew ?_ | refine blk_alloc ?_ _)); refine blk_put (cs := #[.slice none 0 0, .slice none 0 0]) ?_ 0 _ rfl; (with_reducible repeat (first | refine blk_drewN ?_ _ | refine blk_drew ?_ | refine blk_alloc ?_ _)); exact BK319.out))⟩; have n10_ : Aside0 (Below w.heap.size w w96) := ⟨(by rw [hw]; exact (by repeat (first | (with_reducible first | exact HB.out | apply below_alloc | apply pw_below_drewN | apply below_drew1 | refine below_set ?_ GE276.out | refine below_set ?_ GE294.out | refine below_set ?_ GE319.out) | exact HB.out)))⟩; clear hw; clear HO_15; clear HO_277000; clear HO_277001; clear HO_295000; clear HO_295001; clear HO313; clear HO316; clear BK276; clear BK294; clear BK319; clear HB; have HO_15 := n0_; have HO_277000 := n1_; have HO_277001 := n2_; have HO_295000 := n3_; have HO_295001 := n4_; have HO313 := n5_; have HO316 := n6_; have BK276 := n7_; have BK294 := n8_; have BK319 := n9_; have HB := n10_; clear n0_ n1_ n2_ n3_ n4_ n5_ n6_ n7_ n8_ n9_ n10_; have hcz97_0 : w96.cell? ⟨gb276, 0, none⟩ = some (.slice Ao58 x277000_1.length co58) := (blk_cell BK276.out 0).trans rfl; have hcz97_1 : w96.cell? ⟨gb276, 1, none⟩ = some (.slice Ao59 x277001_1.length co59) := (blk_cell BK276.out 1).trans rfl; have hfz97_0 := blk_frozen BK276.out 0; have hfz97_1 := blk_frozen BK276.out 1) | ((with_reducible refine gate_callee (f := 48) rfl ?_); refine goesL_ (some 162) rfl rfl Try.func48 (by kernel_rfl) rfl #[.agg #[.slice Ao58 x277000_1.length co58, .slice Ao59 x277001_1.length co59], .int .i64 (wrap64 (Int.tmod (IntKind.u64.wrap (a1)) (IntKind.u64.wrap ((t264.length : Int))))), .int .i64 (wrap64 (x16_3 + 1))] rfl (by (try simp only [List.map_toArray, List.map_cons, List.map_nil]); first | done | rfl | (simp only [List.length_drop, List.length_take]; rfl)) ?_; (with_reducible refine (credit_Reserve.calls k3 (fun k_ => (some k_ ≠ (.slice (some ad299) t296.length co70 : Value).ownBlock ∧ (some k_ ≠ (.slice (some ad300) t288.length co62 : Value).ownBlock ∧ (some k_ ≠ (.slice (some ad302) t291.length co65 : Value).ownBlock ∧ (k_ ≠ gb276 ∧ (k_ ≠ gb294 ∧ k_ ≠ gb319)))))) _ _ x277000_1 (fun k_ => (some k_ ≠ (.slice (some ad299) t296.length co70 : Value).ownBlock ∧ (some k_ ≠ (.slice (some ad300) t288.length co62 : Value).ownBlock ∧ (some k_ ≠ (.slice (some ad302) t291.length co65 : Value).ownBlock ∧ (k_ ≠ gb276 ∧ (k_ ≠ gb294 ∧ k_ ≠ gb319)))))) _ _ x277001_1 (wrap64 (Int.tmod (IntKind.u64.wrap (a1)) (IntKind.u64.wrap ((t264.length : Int))))) (wrap64 (x16_3 + 1)) t320 t323 t326 t327 _ ?side1 ?side2 A81.out).mono ?_); (case side1 => exact HO_277000.out); (case side2 => exact HO_277001.out); rintro e w98 ⟨v321, v324, rfl, ho0, ho1, hb⟩; refine ⟨_, rfl, ?_⟩; have n0_ := Aside0.mk (Kd.R_below (by (with_reducible repeat (first | apply Kd.R_alloc | apply Kd.R_drewN | apply Kd.R_drew)); exact HO_15.out) hb); have n1_ := Aside0.mk (Kd.V_below (by (with_reducible repeat (first | apply Kd.V_alloc | apply Kd.V_drewN | apply Kd.V_drew)); exact HO_277000.out) hb); have n2_ := Aside0.mk (Kd.V_below (by (with_reducible repeat (first | apply Kd.V_alloc | apply Kd.V_drewN | apply Kd.V_drew)); exact HO_277001.out) hb); have n3_ := Aside0.mk (Kd.R_below (by (with_reducible repeat (first | apply Kd.R_alloc | apply Kd.R_drewN | apply Kd.R_drew)); exact HO_295000.out) hb); have n4_ := Aside0.mk (Kd.R_below (by (with_reducible repeat (first | apply Kd.R_alloc | apply Kd.R_drewN | apply Kd.R_drew)); exact HO_295001.out) hb); have n5_ := Aside0.mk (Kd.V_below (by (with_reducible repeat (first | apply Kd.V_alloc | apply Kd.V_drewN | apply Kd.V_drew)); exact HO313.out) hb); have n6_ := Aside0.mk (Kd.V_below (by (with_reducible repeat (first | apply Kd.V_alloc | apply Kd.V_drewN | apply Kd.V_drew)); exact HO316.out) hb); have n7_ := Aside0.mk (Kd.V_lower (Kd.V_mono (ok' := fun k_ => some k_ ≠ (.slice (some ad299) t296.length co70 : Value).ownBlock ∧ some k_ ≠ (.slice (some ad300) t288.length co62 : Value).ownBlock ∧ some k_ ≠ (.slice (some ad302) t291.length co65 : Value).ownBlock ∧ k_ ≠ gb276 ∧ k_ ≠ gb294 ∧ k_ ≠ gb319) ho0 (fun k_ hk_ => ⟨Or.elim hk_ (fun hs_ => Or.elim hs_ (fun hs_ => hs_.1) (fun hs_ => hs_.1)) (fun hn_ => (Kd.fresh' (Kd.R_lt (by (with_reducible repeat (first | apply Kd.R_alloc | apply Kd.R_drewN | apply Kd.R_drew)); exact HO_15.out)) k_ hn_)), Or.elim hk_ (fun hs_ => Or.elim hs_ (fun hs_ => hs_.2.1) (fun hs_ => hs_.2.1)) (fun hn_ => (Kd.fresh' (Kd.R_lt (by (with_reducible repeat (first | apply Kd.R_alloc | apply Kd.R_drewN | apply Kd.R_drew)); exact HO_295000.out)) k_ hn_)), Or.elim hk_ (fun hs_ => Or.elim hs_ (fun hs_ => hs_.2.2.1) (fun hs_ => hs_.2.2.1)) (fun hn_ => (Kd.fresh' (Kd.R_lt (by (with_reducible repeat (first | apply Kd.R_alloc | apply Kd.R_drewN | apply Kd.R_drew)); exact HO_295001.out)) k_ hn_)), Or.elim hk_ (fun hs_ => Or.elim hs_ (fun hs_ => hs_.2.2.2.1) (fun hs_ => hs_.2.2.2.1)) (fun hn_ => (Kd.freshB (g := gb276) (o := .cells #[.slice Ao58 x277000_1.length co58, .slice Ao59 x277001_1.length co59] 61 (0, 0)) (by (with_reducible repeat (first | refine blk_drewN ?_ _ | refine blk_drew ?_ | refine blk_alloc ?_ _)); exact BK276.out) k_ hn_)), Or.elim hk_ (fun hs_ => Or.elim hs_ (fun hs_ => hs_.2.2.2.2.1) (fun hs_ => hs_.2.2.2.2.1)) (fun hn_ => (Kd.freshB (g := gb294) (o := .cells #[.slice (some ad300) t288.length co62, .slice (some ad302) t291.length co65] 58 (0, 0)) (by (with_reducible repeat (first | refine blk_drewN ?_ _ | refine blk_drew ?_ | refine blk_alloc ?_ _)); exact BK294.out) k_ hn_)), Or.elim hk_ (fun hs_ => Or.elim hs_ (fun hs_ => hs_.2.2.2.2.2) (fun hs_ => hs_.2.2.2.2.2)) (fun hn_ => (Kd.freshB (g := gb319) (o := .cells #[.slice Ao91 t311.length co91, .slice Ao95 t314.length co95] 61 (0, 0)) (by (with_reducible repeat (first | refine blk_drewN ?_ _ | refine blk_drew ?_ | refine blk_alloc ?_ _)); exact BK319.out) k_ hn_))⟩)) (below_size (by repeat (first | (with_reducible first | exact HB.out | apply below_alloc | apply pw_below_drewN | apply below_drew1 | refine below_set ?_ GE276.out | refine below_set ?_ GE294.out | refine below_set ?_ GE319.out) | exact HB.out)))); have n8_ := Aside0.mk (Kd.V_lower (Kd.V_mono (ok' := fun k_ => some k_ ≠ (.slice (some ad299) t296.length co70 : Value).ownBlock ∧ some k_ ≠ (.slice (some ad300) t288.length co62 : Value).ownBlock ∧ some k_ ≠ (.slice (some ad302) t291.length co65 : Value).ownBlock ∧ k_ ≠ gb276 ∧ k_ ≠ gb294 ∧ k_ ≠ gb319) ho1 (fun k_ hk_ => ⟨Or.elim hk_ (fun hs_ => Or.elim hs_ (fun hs_ => hs_.1) (fun hs_ => hs_.1)) (fun hn_ => (Kd.fresh' (Kd.R_lt (by (with_reducible repeat (first | apply Kd.R_alloc | apply Kd.R_drewN | apply Kd.R_drew)); exact HO_15.out)) k_ hn_)), Or.elim hk_ (fun hs_ => Or.elim hs_ (fun hs_ => hs_.2.1) (fun hs_ => hs_.2.1)) (fun hn_ => (Kd.fresh' (Kd.R_lt (by (with_reducible repeat (first | apply Kd.R_alloc | apply Kd.R_drewN | apply Kd.R_drew)); exact HO_295000.out)) k_ hn_)), Or.elim hk_ (fun hs_ => Or.elim hs_ (fun hs_ => hs_.2.2.1) (fun hs_ => hs_.2.2.1)) (fun hn_ => (Kd.fresh' (Kd.R_lt (by (with_reducible repeat (first | apply Kd.R_alloc | apply Kd.R_drewN | apply Kd.R_drew)); exact HO_295001.out)) k_ hn_)), Or.elim hk_ (fun hs_ => Or.elim hs_ (fun hs_ => hs_.2.2.2.1) (fun hs_ => hs_.2.2.2.1)) (fun hn_ => (Kd.freshB (g := gb276) (o := .cells #[.slice Ao58 x277000_1.length co58, .slice Ao59 x277001_1.length co59] 61 (0, 0)) (by (with_reducible repeat (first | refine blk_drewN ?_ _ | refine blk_drew ?_ | refine blk_alloc ?_ _)); exact BK276.out) k_ hn_)), Or.elim hk_ (fun hs_ => Or.elim hs_ (fun hs_ => hs_.2.2.2.2.1) (fun hs_ => hs_.2.2.2.2.1)) (fun hn_ => (Kd.freshB (g := gb294) (o := .cells #[.slice (some ad300) t288.length co62, .slice (some ad302) t291.length co65] 58 (0, 0)) (by (with_reducible repeat (first | refine blk_drewN ?_ _ | refine blk_drew ?_ | refine blk_alloc ?_ _)); exact BK294.out) k_ hn_)), Or.elim hk_ (fun hs_ => Or.elim hs_ (fun hs_ => hs_.2.2.2.2.2) (fun hs_ => hs_.2.2.2.2.2)) (fun hn_ => (Kd.freshB (g := gb319) (o := .cells #[.slice Ao91 t311.length co91, .slice Ao95 t314.length co95] 61 (0, 0)) (by (with_reducible repeat (first | refine blk_drewN ?_ _ | refine blk_drew ?_ | refine blk_alloc ?_ _)); exact BK319.out) k_ hn_))⟩)) (below_size (by repeat (first | (with_reducible first | exact HB.out | apply below_alloc | apply pw_below_drewN | apply below_drew1 | refine below_set ?_ GE276.out | refine below_set ?_ GE294.out | refine below_set ?_ GE319.out) | exact HB.out)))); have n9_ := Aside0.mk (blk_below (g := gb276) (o := .cells #[.slice Ao58 x277000_1.length co58, .slice Ao59 x277001_1.length co59] 61 (0, 0)) (by (with_reducible repeat (first | refine blk_drewN ?_ _ | refine blk_drew ?_ | refine blk_alloc ?_ _)); exact BK276.out) hb); have n10_ := Aside0.mk (blk_below (g := gb294) (o := .cells #[.slice (some ad300) t288.length co62, .slice (some ad302) t291.length co65] 58 (0, 0)) (by (with_reducible repeat (first | refine blk_drewN ?_ _ | refine blk_drew ?_ | refine blk_alloc ?_ _)); exact BK294.out) hb); have n11_ := Aside0.mk (blk_below (g := gb319) (o := .cells #[.slice Ao91 t311.length co91, .slice Ao95 t314.length co95] 61 (0, 0)) (by (with_reducible repeat (first | refine blk_drewN ?_ _ | refine blk_drew ?_ | refine blk_alloc ?_ _)); exact BK319.out) hb); have n12_ := Aside0.mk (below_step (by repeat (first | (with_reducible first | exact HB.out | apply below_alloc | apply pw_below_drewN | apply below_drew1 | refine below_set ?_ GE276.out | refine below_set ?_ GE294.out | refine below_set ?_ GE319.out) | exact HB.out)) hb); clear HO_15; clear HO_277000; clear HO_277001; clear HO_295000; clear HO_295001; clear HO313; clear HO316; clear BK276; clear BK294; clear BK319; clear HB; have HO_15 := n0_; have HO_277000 := n1_; have HO_277001 := n2_; have HO_295000 := n3_; have HO_295001 := n4_; have HO313 := n5_; have HO316 := n6_; have HO322 := n7_; have HO325 := n8_; have BK276 := n9_; have BK294 := n10_; have BK319 := n11_; have HB := n12_; clear n0_ n1_ n2_ n3_ n4_ n5_ n6_ n7_ n8_ n9_ n10_ n11_ n12_; (try clear hb); (try clear hb2); (try clear hk); (try clear hi); (try clear ho0); (try clear ho1)) | ((with_reducible refine gate_dst (N := 22) rfl ?_); (try (refine gate_guard (by rfl) ?_; dsimp only)); refine box_event ?hg (N := 22) ?hd (cs := #[.slice none 0 0, .slice none 0 0]) (t := 61) ?hr ?_; (case hd => rfl); (case hg => rfl); (case hr => first | (go_simp; done) | (go_simp; rfl)); intro gb328 hg w99 hbox hb; have n0_ := Aside0.mk (Kd.R_below (by (with_reducible repeat (first | apply Kd.R_alloc | apply Kd.R_drewN | apply Kd.R_drew)); exact HO_15.out) hb); have n1_ := Aside0.mk (Kd.V_below (Kd.V_elderB (by (with_reducible repeat (first | apply Kd.V_alloc | apply Kd.V_drewN | apply Kd.V_drew)); exact HO_277000.out) gb328 (Nat.le_of_eq hg.symm)) hb); have n2_ := Aside0.mk (Kd.V_below (Kd.V_elderB (by (with_reducible repeat (first | apply Kd.V_alloc | apply Kd.V_drewN | apply Kd.V_drew)); exact HO_277001.out) gb328 (Nat.le_of_eq hg.symm)) hb); have n3_ := Aside0.mk (Kd.R_below (by (with_reducible repeat (first | apply Kd.R_alloc | apply Kd.R_drewN | apply Kd.R_drew)); exact HO_295000.out) hb); have n4_ := Aside0.mk (Kd.R_below (by (with_reducible repeat (first | apply Kd.R_alloc | apply Kd.R_drewN | apply Kd.R_drew)); exact HO_295001.out) hb); have n5_ := Aside0.mk (Kd.V_below (Kd.V_elderB (by (with_reducible repeat (first | apply Kd.V_alloc | apply Kd.V_drewN | apply Kd.V_drew)); exact HO313.out) gb328 (Nat.le_of_eq hg.symm)) hb); have n6_ := Aside0.mk (Kd.V_below (Kd.V_elderB (by (with_reducible repeat (first | apply Kd.V_alloc | apply Kd.V_drewN | apply Kd.V_drew)); exact HO316.out) gb328 (Nat.le_of_eq hg.symm)) hb); have n7_ := Aside0.mk (Kd.V_below (Kd.V_elderB (by (with_reducible repeat (first | apply Kd.V_alloc | apply Kd.V_drewN | apply Kd.V_drew)); exact HO322.out) gb328 (Nat.le_of_eq hg.symm)) hb); have n8_ := Aside0.mk (Kd.V_below (Kd.V_elderB (by (with_reducible repeat (first | apply Kd.V_alloc | apply Kd.V_drewN | apply Kd.V_drew)); exact HO325.out) gb328 (Nat.le_of_eq hg.symm)) hb); have n9_ := Aside0.mk (blk_below (g := gb276) (o := .cells #[.slice Ao58 x277000_1.length co58, .slice Ao59 x277001_1.length co59] 61 (0, 0)) (by (with_reducible repeat (first | refine blk_drewN ?_ _ | refine blk_drew ?_ | refine blk_alloc ?_ _)); exact BK276.out) hb); have n10_ := Aside0.mk (blk_below (g := gb294) (o := .cells #[.slice (some ad300) t288.length co62, .slice (some ad302) t291.length co65] 58 (0, 0)) (by (with_reducible repeat (first | refine blk_drewN ?_ _ | refine blk_drew ?_ | refine blk_alloc ?_ _)); exact BK294.out) hb); have n11_ := Aside0.mk (blk_below (g := gb319) (o := .cells #[.slice Ao91 t311.length co91, .slice Ao95 t314.length co95] 61 (0, 0)) (by (with_reducible repeat (first | refine blk_drewN ?_ _ | refine blk_drew ?_ | refine blk_alloc ?_ _)); exact BK319.out) hb); have n12_ := Aside0.mk (below_step (by repeat (first | (with_reducible first | exact HB.out | apply below_alloc | apply pw_below_drewN | apply below_drew1 | refine below_set ?_ GE276.out | refine below_set ?_ GE294.out | refine below_set ?_ GE319.out) | exact HB.out)) hb); have n13_ := Aside0.mk (hbox); have n14_ := Aside0.mk ((by rw [hg]; exact (below_size (by repeat (first | (with_reducible first | exact HB.out | apply below_alloc | apply pw_below_drewN | apply below_drew1 | refine below_set ?_ GE276.out | refine below_set ?_ GE294.out | refine below_set ?_ GE319.out) | exact HB.out))) : w.heap.size ≤ gb328)); have n15_ := Aside0.mk ((by rw [hg]; exact (below_size (by repeat (first | (with_reducible first | exact HB.out | apply below_alloc | apply pw_below_drewN | apply below_drew1 | refine below_set ?_ GE276.out | refine below_set ?_ GE294.out | refine below_set ?_ GE319.out) | exact HB.out))) : w.heap.size ≤ gb328)); have n16_ := Aside0.mk ((by rw [hg]; exact Nat.ne_of_lt (blk_lt (g := gb276) (o := .cells #[.slice Ao58 x277000_1.length co58, .slice Ao59 x277001_1.length co59] 61 (0, 0)) (by (with_reducible repeat (first | refine blk_drewN ?_ _ | refine blk_drew ?_ | refine blk_alloc ?_ _)); exact BK276.out)) : gb276 ≠ gb328)); have n17_ := Aside0.mk ((by rw [hg]; exact Nat.ne_of_gt (blk_lt (g := gb276) (o := .cells #[.slice Ao58 x277000_1.length co58, .slice Ao59 x277001_1.length co59] 61 (0, 0)) (by (with_reducible repeat (first | refine blk_drewN ?_ _ | refine blk_drew ?_ | refine blk_alloc ?_ _)); exact BK276.out)) : gb328 ≠ gb276)); have n18_ := Aside0.mk ((by rw [hg]; exact Nat.ne_of_lt (blk_lt (g := gb294) (o := .cells #[.slice (some ad300) t288.length co62, .slice (some ad302) t291.length co65] 58 (0, 0)) (by (with_reducible repeat (first | refine blk_drewN ?_ _ | refine blk_drew ?_ | refine blk_alloc ?_ _)); exact BK294.out)) : gb294 ≠ gb328)); have n19_ := Aside0.mk ((by rw [hg]; exact Nat.ne_of_gt (blk_lt (g := gb294) (o := .cells #[.slice (some ad300) t288.length co62, .slice (some ad302) t291.length co65] 58 (0, 0)) (by (with_reducible repeat (first | refine blk_drewN ?_ _ | refine blk_drew ?_ | refine blk_alloc ?_ _)); exact BK294.out)) : gb328 ≠ gb294)); have n20_ := Aside0.mk ((by rw [hg]; exact Nat.ne_of_lt (blk_lt (g := gb319) (o := .cells #[.slice Ao91 t311.length co91, .slice Ao95 t314.length co95] 61 (0, 0)) (by (with_reducible repeat (first | refine blk_drewN ?_ _ | refine blk_drew ?_ | refine blk_alloc ?_ _)); exact BK319.out)) : gb319 ≠ gb328)); have n21_ := Aside0.mk ((by rw [hg]; exact Nat.ne_of_gt (blk_lt (g := gb319) (o := .cells #[.slice Ao91 t311.length co91, .slice Ao95 t314.length co95] 61 (0, 0)) (by (with_reducible repeat (first | refine blk_drewN ?_ _ | refine blk_drew ?_ | refine blk_alloc ?_ _)); exact BK319.out)) : gb328 ≠ gb319)); clear HO_15; clear HO_277000; clear HO_277001; clear HO_295000; clear HO_295001; clear HO313; clear HO316; clear HO322; clear HO325; clear BK276; clear BK294; clear BK319; clear HB; have HO_15 := n0_; have HO_277000 := n1_; have HO_277001 := n2_; have HO_295000 := n3_; have HO_295001 := n4_; have HO313 := n5_; have HO316 := n6_; have HO322 := n7_; have HO325 := n8_; have BK276 := n9_; have BK294 := n10_; have BK319 := n11_; have HB := n12_; have BK328 := n13_; have GW328 := n14_; have GE328 := n15_; have NB276_328 := n16_; have NB328_276 := n17_; have NB294_328 := n18_; have NB328_294 := n19_; have NB319_328 := n20_; have NB328_319 := n21_; clear n0_ n1_ n2_ n3_ n4_ n5_ n6_ n7_ n8_ n9_ n10_ n11_ n12_ n13_ n14_ n15_ n16_ n17_ n18_ n19_ n20_ n21_; clear hb hbox hg; obtain ⟨Ao100, co100, eo100⟩ := Kd.V_slice HO322.out; subst eo100; have hnb101 := NB328_276.out; have hnc101 := NB276_328.out; have hnb102 := NB328_294.out; have hnc102 := NB294_328.out; have hnb103 := NB328_319.out; have hnc103 := NB319_328.out; have hcz104_0 : w99.cell? ⟨gb328, 0, none⟩ = some (.slice none 0 0) := (blk_cell BK328.out 0).trans rfl; have hcz104_1 : w99.cell? ⟨gb328, 1, none⟩ = some (.slice none 0 0) := (blk_cell BK328.out 1).trans rfl; have hfz104_0 := blk_frozen BK328.out 0; have hfz104_1 := blk_frozen BK328.out 1; obtain ⟨Ao105, co105, eo105⟩ := Kd.V_slice HO325.out; subst eo105; have p329 : 0 ≤ (x17_3 : Int) := of_decide_eq_true (by first | (with_reducible assumption) | assumption); have q329 : x17_3 < (t296.length : Int) := of_decide_eq_true (by first | (with_reducible assumption) | assumption); obtain ⟨ad329, e329, hx329_0⟩ := Kd.at_int (Kd.R_reads' HO_15.out).2.2 x17_3 p329 q329; obtain rfl : ad299 = ad329 := (by injection e329); have hn329_0 : ad299.block ≠ gb328 := Kd.own_blk (Kd.R_ne HO_15.out BK328.out (by decide)); have hn329_1 : ad299.block ≠ gb328 := Kd.own_blk (Kd.R_ne HO_15.out BK328.out (by decide)); replace hx329_0 := (cell_far (p := ⟨gb328, 0, none⟩) (by first | (rw [add_block]; exact hn329_0) | (show (Addr.add _ _).block ≠ _; rw [add_block]; exact hn329_0) | exact hn329_0) (.slice Ao100 t320.length co100)).trans hx329_0; replace hx329_0 := (cell_far (p := ⟨gb328, 1, none⟩) (by first | (rw [add_block]; exact hn329_1) | (show (Addr.add _ _).block ≠ _; rw [add_block]; exact hn329_1) | exact hn329_1) (.slice Ao105 t323.length co105)).trans hx329_0; clear hn329_0; clear hn329_1; replace p329 := eq_true p329; replace q329 := eq_true q329))
                     go_ret
                     exact ⟨by first | rfl | (simp [errW_none, errW_some] <;> rfl) | (simp [*, errW_none, errW_some] <;> rfl), by repeat (first | (with_reducible first | exact HB.out | apply below_alloc | apply pw_below_drewN | apply below_drew1 | refine below_set ?_ GE276.out | refine below_set ?_ GE294.out | refine below_set ?_ GE319.out | refine below_set ?_ GE328.out) | exact HB.out)⟩
                    ·rw [if_neg c86] at H
                     exact absurd H (by simp)
                   ·rw [if_neg c85] at H
                    exact absurd H (by simp)
                  ·rw [if_neg c84] at H
                   exact absurd H (by simp)
                 ·rw [if_neg c83] at H
                  exact absurd H (by simp)
                ·rw [if_neg c82] at H
                 exact absurd H (by simp)
            ·rw [if_neg c56] at H
             exact absurd H (by simp)
           ·rw [if_neg c55] at H
            exact absurd H (by simp)
          ·rw [if_neg c54] at H
           exact absurd H (by simp)
         ·rw [if_neg c53] at H
          exact absurd H (by simp)
        ·rw [if_neg c51] at H
         exact absurd H (by simp)
       ·replace c50 := Bool.eq_false_iff.mpr c50
        subst c50
        have H1 : (none) = some r := by rw [if_neg (show ¬ (false = true) by decide)] at H; exact H
        clear H
        have H := H1
        clear H1
        exact absurd H (by simp)

/-- THE ONE PURE STATEMENT of stopgatelaw04_CreditEdges: yours. -/
def stopgatelaw04_CreditEdges.Pure : Prop := ∀ (l0 : List (S68)) (a1 : Int) (l2 : List Int), (l0.length ≤ maxLen ∧ ∀ x ∈ l0, ((Lit.int .i64 x.f0).wf = true ∧ (Lit.int .i64 x.f1).wf = true)) → (Lit.int .i64 a1).wf = true → (l2.length ≤ maxLen ∧ ∀ x ∈ l2, (Lit.int .i64 x).wf = true) → ∃ k, stopgatelaw04_CreditEdges.f k l0 a1 l2 = some true
theorem stopgatelaw04_CreditEdges.walk (P : stopgatelaw04_CreditEdges.Pure) (A0 : Option Addr) (c0 : Nat) (l0 : List (S68)) (a1 : Int) (A2 : Option Addr) (c2 : Nat) (l2 : List Int) (w : World) (hr0 : Kd.C k68 w A0 l0.length l0) (hc0 : l0.length ≤ c0) (hr2 : Kd.C (Kd.int .i64) w A2 l2.length l2) (hc2 : l2.length ≤ c2) (h_0 : (l0.length ≤ maxLen ∧ ∀ x ∈ l0, ((Lit.int .i64 x.f0).wf = true ∧ (Lit.int .i64 x.f1).wf = true))) (h_1 : (Lit.int .i64 a1).wf = true) (h_2 : (l2.length ≤ maxLen ∧ ∀ x ∈ l2, (Lit.int .i64 x).wf = true)) :
  Calls Try.prog 12 #[.slice A0 l0.length c0, .int .i64 a1, .slice A2 l2.length c2] w fun e w' => e = .returned (.bool true) ∧ Below w.heap.size w w' := by
 obtain ⟨k, h⟩ := P l0 a1 l2 h_0 h_1 h_2
 refine (stopgatelaw04_CreditEdges.calls k _ _ l0 a1 _ _ l2 true w hr0 hc0 hr2 hc2 h).mono ?_
 rintro e w' ⟨rfl, hd⟩
 exact ⟨rfl, hd⟩

end Go.Proofs.Ytnodcekkbbmfnaa.QCreditEdges
