/- Printed by wip/gen/myprint.py, a program of this session, for this claim: functions of the program as Lean functions, each with a proof that the Go code comes to its answers. -/
import Derived.Test.YtgikjgekdeaneaaQRulesLooksx0
import Derived.Test.YtgikjgekdeaneaaQRulesLooksx1
namespace Go.Proofs.Ytgikjgekdeaneaa.QRulesLooks
open Go.RowKit Go.Proofs.YtgikjgekdeaneaaW.PrintWords Go.Proofs.YtgikjgekdeaneaaW.PrintLast Go.Proofs.YtgikjgekdeaneaaW.PrintMore
attribute [local go_sem] max2_int min2_int max_two min_two max_three min_three max_four min_four   -- for this text's walks alone
set_option linter.unusedVariables false
set_option linter.unusedSimpArgs false

attribute [local go_sem] run_store_flt
/-! ### stopgateref05_Fix: function 40 -/
mutual
def stopgateref05_Fix.l0 : Nat → Int → Int → Int → Int → Int → List (S176) → List Int → List (S86) → Int → Int → Int → Int → List (S176) → List Int → Option (Int × Int × Int × Int × (List (S176)) × List Int × (List (S86)))
 | 0, _, _, _, _, _, _, _, _, _, _, _, _, _, _ => none
 | k + 1, x4, x129000, x129001, x129002, x129003, x129004, x129005, x129006, x134000, x134001, x134002, x134003, x134004, x134005 => if x4 < (x129005.length : Int) then (stopgateref05_Fix.j1 k x4 (decide (x4 < 5)) x129000 x129001 x129002 x129003 x129004 x129005 x129006 x134000 x134001 x134002 x134003 x134004 x134005) else (stopgateref05_Fix.j1 k x4 false x129000 x129001 x129002 x129003 x129004 x129005 x129006 x134000 x134001 x134002 x134003 x134004 x134005)
def stopgateref05_Fix.j1 : Nat → Int → Bool → Int → Int → Int → Int → List (S176) → List Int → List (S86) → Int → Int → Int → Int → List (S176) → List Int → Option (Int × Int × Int × Int × (List (S176)) × List Int × (List (S86)))
 | 0, _, _, _, _, _, _, _, _, _, _, _, _, _, _, _ => none
 | k + 1, x4, x43, x129000, x129001, x129002, x129003, x129004, x129005, x129006, x134000, x134001, x134002, x134003, x134004, x134005 => if x43 = true then (if 0 ≤ x4 then (if x4 < (x129005.length : Int) then (if (IntKind.u64.wrap ((x134004.length : Int))) = 0 then (none) else (if x134005.length < 17592186044416 then (stopgateref05_Fix.l0 k (wrap64 (x4 + 1)) x129000 x129001 x129002 x129003 x129004 x129005 x129006 x134000 x134001 x134002 x134003 x134004 (x134005 ++ [wrap64 (Int.tmod (IntKind.u64.wrap (rd x129005 x4)) (IntKind.u64.wrap ((x134004.length : Int))))])) else (none))) else (none)) else (none)) else (if (x134005.length : Int) = 0 then (stopgateref05_Fix.j2 k x129000 x129001 x129002 x129003 x129004 x129005 x129006 x134000 x134001 x134002 x134003 x134004 (([wrap64 ((x134004.length : Int) - 1)] : List Int))) else (stopgateref05_Fix.j2 k x129000 x129001 x129002 x129003 x129004 x129005 x129006 x134000 x134001 x134002 x134003 x134004 x134005))
def stopgateref05_Fix.j2 : Nat → Int → Int → Int → Int → List (S176) → List Int → List (S86) → Int → Int → Int → Int → List (S176) → List Int → Option (Int × Int × Int × Int × (List (S176)) × List Int × (List (S86)))
 | 0, _, _, _, _, _, _, _, _, _, _, _, _, _ => none
 | k + 1, x129000, x129001, x129002, x129003, x129004, x129005, x129006, x134000, x134001, x134002, x134003, x134004, x134005 => stopgateref05_Fix.l1 k 0 x129000 x129001 x129002 x129003 x129004 x129005 x129006 x134000 x134001 x134002 x134003 x134004 x134005 ([] : List (S86))
def stopgateref05_Fix.l1 : Nat → Int → Int → Int → Int → Int → List (S176) → List Int → List (S86) → Int → Int → Int → Int → List (S176) → List Int → List (S86) → Option (Int × Int × Int × Int × (List (S176)) × List Int × (List (S86)))
 | 0, _, _, _, _, _, _, _, _, _, _, _, _, _, _, _ => none
 | k + 1, x5, x129000, x129001, x129002, x129003, x129004, x129005, x129006, x134000, x134001, x134002, x134003, x134004, x134005, x134006 => if x5 < (x129006.length : Int) then (stopgateref05_Fix.j4 k x5 (decide (x5 < 3)) x129000 x129001 x129002 x129003 x129004 x129005 x129006 x134000 x134001 x134002 x134003 x134004 x134005 x134006) else (stopgateref05_Fix.j4 k x5 false x129000 x129001 x129002 x129003 x129004 x129005 x129006 x134000 x134001 x134002 x134003 x134004 x134005 x134006)
def stopgateref05_Fix.j4 : Nat → Int → Bool → Int → Int → Int → Int → List (S176) → List Int → List (S86) → Int → Int → Int → Int → List (S176) → List Int → List (S86) → Option (Int × Int × Int × Int × (List (S176)) × List Int × (List (S86)))
 | 0, _, _, _, _, _, _, _, _, _, _, _, _, _, _, _, _ => none
 | k + 1, x5, x81, x129000, x129001, x129002, x129003, x129004, x129005, x129006, x134000, x134001, x134002, x134003, x134004, x134005, x134006 => if x81 = true then (if 0 ≤ x5 then (if x5 < (x129006.length : Int) then (if ((rd_T86 x129006 x5).f2) < 0 then (stopgateref05_Fix.j5 k x5 x129000 x129001 x129002 x129003 x129004 x129005 x129006 x134000 x134001 x134002 x134003 x134004 x134005 x134006 (wrap64 (1 + (wrap64 (Int.tmod (IntKind.u64.wrap ((rd_T86 x129006 x5).f0)) 1099511627776)))) (wrap64 (1 + (wrap64 (Int.tmod (IntKind.u64.wrap ((rd_T86 x129006 x5).f1)) 1099511627776)))) 9223372036854775807 ((rd_T86 x129006 x5).f3)) else (stopgateref05_Fix.j5 k x5 x129000 x129001 x129002 x129003 x129004 x129005 x129006 x134000 x134001 x134002 x134003 x134004 x134005 x134006 (wrap64 (1 + (wrap64 (Int.tmod (IntKind.u64.wrap ((rd_T86 x129006 x5).f0)) 1099511627776)))) (wrap64 (1 + (wrap64 (Int.tmod (IntKind.u64.wrap ((rd_T86 x129006 x5).f1)) 1099511627776)))) ((rd_T86 x129006 x5).f2) ((rd_T86 x129006 x5).f3))) else (none)) else (none)) else (if (x134006.length : Int) = 0 then (some (x134000, x134001, x134002, x134003, x134004, x134005, (([(⟨10, 100, 1000, 4602678819172646912⟩ : S86)] : List (S86))))) else (some (x134000, x134001, x134002, x134003, x134004, x134005, x134006)))
def stopgateref05_Fix.j5 : Nat → Int → Int → Int → Int → Int → List (S176) → List Int → List (S86) → Int → Int → Int → Int → List (S176) → List Int → List (S86) → Int → Int → Int → Nat → Option (Int × Int × Int × Int × (List (S176)) × List Int × (List (S86)))
 | 0, _, _, _, _, _, _, _, _, _, _, _, _, _, _, _, _, _, _, _ => none
 | k + 1, x5, x129000, x129001, x129002, x129003, x129004, x129005, x129006, x134000, x134001, x134002, x134003, x134004, x134005, x134006, x144000, x144001, x144002, x144003 => (stopgateref02_Right.f x144003).bind fun t144 => (if t144 = true then (if x134006.length < 4398046511104 then (stopgateref05_Fix.l1 k (wrap64 (x5 + 1)) x129000 x129001 x129002 x129003 x129004 x129005 x129006 x134000 x134001 x134002 x134003 x134004 x134005 (x134006 ++ [(⟨x144000, x144001, x144002, x144003⟩ : S86)])) else (none)) else (if x134006.length < 4398046511104 then (stopgateref05_Fix.l1 k (wrap64 (x5 + 1)) x129000 x129001 x129002 x129003 x129004 x129005 x129006 x134000 x134001 x134002 x134003 x134004 x134005 (x134006 ++ [(⟨x144000, x144001, x144002, 4602678819172646912⟩ : S86)])) else (none)))
end
def stopgateref05_Fix.f (k : Nat) (a0_0 : Int) (a0_1 : Int) (a0_2 : Int) (a0_3 : Int) (l0_4 : List (S176)) (l0_5 : List Int) (l0_6 : List (S86)) : Option (Int × Int × Int × Int × (List (S176)) × List Int × (List (S86))) := (stopgateref03_Fix.f k l0_4).bind fun t130 => (stopgateref05_Fix.l0 k 0 a0_0 a0_1 a0_2 a0_3 l0_4 l0_5 l0_6 (wrap64 (1 + (wrap64 (Int.tmod (IntKind.u64.wrap (a0_0)) 3)))) (wrap64 (Int.tmod (IntKind.u64.wrap (a0_1)) 4)) (wrap64 (1 + (wrap64 (Int.tmod (IntKind.u64.wrap (a0_2)) 6)))) (wrap64 (1 + (wrap64 (Int.tmod (IntKind.u64.wrap (a0_3)) 8)))) t130 ([] : List Int))
theorem stopgateref05_Fix.mono_l : ∀ k, (∀ y0 y1 y2 y3 y4 y5 y6 y7 y8 y9 y10 y11 y12 y13, LeO (stopgateref05_Fix.l0 k y0 y1 y2 y3 y4 y5 y6 y7 y8 y9 y10 y11 y12 y13) (stopgateref05_Fix.l0 (k + 1) y0 y1 y2 y3 y4 y5 y6 y7 y8 y9 y10 y11 y12 y13)) ∧ (∀ y0 y1 y2 y3 y4 y5 y6 y7 y8 y9 y10 y11 y12 y13 y14, LeO (stopgateref05_Fix.j1 k y0 y1 y2 y3 y4 y5 y6 y7 y8 y9 y10 y11 y12 y13 y14) (stopgateref05_Fix.j1 (k + 1) y0 y1 y2 y3 y4 y5 y6 y7 y8 y9 y10 y11 y12 y13 y14)) ∧ (∀ y0 y1 y2 y3 y4 y5 y6 y7 y8 y9 y10 y11 y12, LeO (stopgateref05_Fix.j2 k y0 y1 y2 y3 y4 y5 y6 y7 y8 y9 y10 y11 y12) (stopgateref05_Fix.j2 (k + 1) y0 y1 y2 y3 y4 y5 y6 y7 y8 y9 y10 y11 y12)) ∧ (∀ y0 y1 y2 y3 y4 y5 y6 y7 y8 y9 y10 y11 y12 y13 y14, LeO (stopgateref05_Fix.l1 k y0 y1 y2 y3 y4 y5 y6 y7 y8 y9 y10 y11 y12 y13 y14) (stopgateref05_Fix.l1 (k + 1) y0 y1 y2 y3 y4 y5 y6 y7 y8 y9 y10 y11 y12 y13 y14)) ∧ (∀ y0 y1 y2 y3 y4 y5 y6 y7 y8 y9 y10 y11 y12 y13 y14 y15, LeO (stopgateref05_Fix.j4 k y0 y1 y2 y3 y4 y5 y6 y7 y8 y9 y10 y11 y12 y13 y14 y15) (stopgateref05_Fix.j4 (k + 1) y0 y1 y2 y3 y4 y5 y6 y7 y8 y9 y10 y11 y12 y13 y14 y15)) ∧ (∀ y0 y1 y2 y3 y4 y5 y6 y7 y8 y9 y10 y11 y12 y13 y14 y15 y16 y17 y18, LeO (stopgateref05_Fix.j5 k y0 y1 y2 y3 y4 y5 y6 y7 y8 y9 y10 y11 y12 y13 y14 y15 y16 y17 y18) (stopgateref05_Fix.j5 (k + 1) y0 y1 y2 y3 y4 y5 y6 y7 y8 y9 y10 y11 y12 y13 y14 y15 y16 y17 y18))
 | 0 => ⟨fun _ _ _ _ _ _ _ _ _ _ _ _ _ _ r h => by simp [stopgateref05_Fix.l0] at h, fun _ _ _ _ _ _ _ _ _ _ _ _ _ _ _ r h => by simp [stopgateref05_Fix.j1] at h, fun _ _ _ _ _ _ _ _ _ _ _ _ _ r h => by simp [stopgateref05_Fix.j2] at h, fun _ _ _ _ _ _ _ _ _ _ _ _ _ _ _ r h => by simp [stopgateref05_Fix.l1] at h, fun _ _ _ _ _ _ _ _ _ _ _ _ _ _ _ _ r h => by simp [stopgateref05_Fix.j4] at h, fun _ _ _ _ _ _ _ _ _ _ _ _ _ _ _ _ _ _ _ r h => by simp [stopgateref05_Fix.j5] at h⟩
 | k + 1 => by
  obtain ⟨ih0, ih1, ih2, ih3, ih4, ih5⟩ := stopgateref05_Fix.mono_l k
  refine ⟨?_, ?_, ?_, ?_, ?_, ?_⟩
  ·intro y0 y1 y2 y3 y4 y5 y6 y7 y8 y9 y10 y11 y12 y13
   unfold stopgateref05_Fix.l0
   repeat' first
   | (with_reducible exact ih0 _ _ _ _ _ _ _ _ _ _ _ _ _ _)
   | (with_reducible exact ih1 _ _ _ _ _ _ _ _ _ _ _ _ _ _ _)
   | (with_reducible exact ih2 _ _ _ _ _ _ _ _ _ _ _ _ _)
   | (with_reducible exact ih3 _ _ _ _ _ _ _ _ _ _ _ _ _ _ _)
   | (with_reducible exact ih4 _ _ _ _ _ _ _ _ _ _ _ _ _ _ _ _)
   | (with_reducible exact ih5 _ _ _ _ _ _ _ _ _ _ _ _ _ _ _ _ _ _ _)
   | (with_reducible exact stopgateref03_Fix.mono _ _)
   | (with_reducible exact LeO.refl _)
   | (with_reducible exact LeO.none _)
   | (with_reducible refine LeO.ite ?_ ?_)
   | (with_reducible refine LeO.bind ?_ (fun _ => ?_))
   | exact ih0 _ _ _ _ _ _ _ _ _ _ _ _ _ _
   | exact ih1 _ _ _ _ _ _ _ _ _ _ _ _ _ _ _
   | exact ih2 _ _ _ _ _ _ _ _ _ _ _ _ _
   | exact ih3 _ _ _ _ _ _ _ _ _ _ _ _ _ _ _
   | exact ih4 _ _ _ _ _ _ _ _ _ _ _ _ _ _ _ _
   | exact ih5 _ _ _ _ _ _ _ _ _ _ _ _ _ _ _ _ _ _ _
   | exact stopgateref03_Fix.mono _ _
   | exact LeO.none _
   | refine LeO.ite ?_ ?_
   | refine LeO.bind ?_ (fun _ => ?_)
  ·intro y0 y1 y2 y3 y4 y5 y6 y7 y8 y9 y10 y11 y12 y13 y14
   unfold stopgateref05_Fix.j1
   repeat' first
   | (with_reducible exact ih0 _ _ _ _ _ _ _ _ _ _ _ _ _ _)
   | (with_reducible exact ih1 _ _ _ _ _ _ _ _ _ _ _ _ _ _ _)
   | (with_reducible exact ih2 _ _ _ _ _ _ _ _ _ _ _ _ _)
   | (with_reducible exact ih3 _ _ _ _ _ _ _ _ _ _ _ _ _ _ _)
   | (with_reducible exact ih4 _ _ _ _ _ _ _ _ _ _ _ _ _ _ _ _)
   | (with_reducible exact ih5 _ _ _ _ _ _ _ _ _ _ _ _ _ _ _ _ _ _ _)
   | (with_reducible exact stopgateref03_Fix.mono _ _)
   | (with_reducible exact LeO.refl _)
   | (with_reducible exact LeO.none _)
   | (with_reducible refine LeO.ite ?_ ?_)
   | (with_reducible refine LeO.bind ?_ (fun _ => ?_))
   | exact ih0 _ _ _ _ _ _ _ _ _ _ _ _ _ _
   | exact ih1 _ _ _ _ _ _ _ _ _ _ _ _ _ _ _
   | exact ih2 _ _ _ _ _ _ _ _ _ _ _ _ _
   | exact ih3 _ _ _ _ _ _ _ _ _ _ _ _ _ _ _
   | exact ih4 _ _ _ _ _ _ _ _ _ _ _ _ _ _ _ _
   | exact ih5 _ _ _ _ _ _ _ _ _ _ _ _ _ _ _ _ _ _ _
   | exact stopgateref03_Fix.mono _ _
   | exact LeO.none _
   | refine LeO.ite ?_ ?_
   | refine LeO.bind ?_ (fun _ => ?_)
  ·intro y0 y1 y2 y3 y4 y5 y6 y7 y8 y9 y10 y11 y12
   unfold stopgateref05_Fix.j2
   repeat' first
   | (with_reducible exact ih0 _ _ _ _ _ _ _ _ _ _ _ _ _ _)
   | (with_reducible exact ih1 _ _ _ _ _ _ _ _ _ _ _ _ _ _ _)
   | (with_reducible exact ih2 _ _ _ _ _ _ _ _ _ _ _ _ _)
   | (with_reducible exact ih3 _ _ _ _ _ _ _ _ _ _ _ _ _ _ _)
   | (with_reducible exact ih4 _ _ _ _ _ _ _ _ _ _ _ _ _ _ _ _)
   | (with_reducible exact ih5 _ _ _ _ _ _ _ _ _ _ _ _ _ _ _ _ _ _ _)
   | (with_reducible exact stopgateref03_Fix.mono _ _)
   | (with_reducible exact LeO.refl _)
   | (with_reducible exact LeO.none _)
   | (with_reducible refine LeO.ite ?_ ?_)
   | (with_reducible refine LeO.bind ?_ (fun _ => ?_))
   | exact ih0 _ _ _ _ _ _ _ _ _ _ _ _ _ _
   | exact ih1 _ _ _ _ _ _ _ _ _ _ _ _ _ _ _
   | exact ih2 _ _ _ _ _ _ _ _ _ _ _ _ _
   | exact ih3 _ _ _ _ _ _ _ _ _ _ _ _ _ _ _
   | exact ih4 _ _ _ _ _ _ _ _ _ _ _ _ _ _ _ _
   | exact ih5 _ _ _ _ _ _ _ _ _ _ _ _ _ _ _ _ _ _ _
   | exact stopgateref03_Fix.mono _ _
   | exact LeO.none _
   | refine LeO.ite ?_ ?_
   | refine LeO.bind ?_ (fun _ => ?_)
  ·intro y0 y1 y2 y3 y4 y5 y6 y7 y8 y9 y10 y11 y12 y13 y14
   unfold stopgateref05_Fix.l1
   repeat' first
   | (with_reducible exact ih0 _ _ _ _ _ _ _ _ _ _ _ _ _ _)
   | (with_reducible exact ih1 _ _ _ _ _ _ _ _ _ _ _ _ _ _ _)
   | (with_reducible exact ih2 _ _ _ _ _ _ _ _ _ _ _ _ _)
   | (with_reducible exact ih3 _ _ _ _ _ _ _ _ _ _ _ _ _ _ _)
   | (with_reducible exact ih4 _ _ _ _ _ _ _ _ _ _ _ _ _ _ _ _)
   | (with_reducible exact ih5 _ _ _ _ _ _ _ _ _ _ _ _ _ _ _ _ _ _ _)
   | (with_reducible exact stopgateref03_Fix.mono _ _)
   | (with_reducible exact LeO.refl _)
   | (with_reducible exact LeO.none _)
   | (with_reducible refine LeO.ite ?_ ?_)
   | (with_reducible refine LeO.bind ?_ (fun _ => ?_))
   | exact ih0 _ _ _ _ _ _ _ _ _ _ _ _ _ _
   | exact ih1 _ _ _ _ _ _ _ _ _ _ _ _ _ _ _
   | exact ih2 _ _ _ _ _ _ _ _ _ _ _ _ _
   | exact ih3 _ _ _ _ _ _ _ _ _ _ _ _ _ _ _
   | exact ih4 _ _ _ _ _ _ _ _ _ _ _ _ _ _ _ _
   | exact ih5 _ _ _ _ _ _ _ _ _ _ _ _ _ _ _ _ _ _ _
   | exact stopgateref03_Fix.mono _ _
   | exact LeO.none _
   | refine LeO.ite ?_ ?_
   | refine LeO.bind ?_ (fun _ => ?_)
  ·intro y0 y1 y2 y3 y4 y5 y6 y7 y8 y9 y10 y11 y12 y13 y14 y15
   unfold stopgateref05_Fix.j4
   repeat' first
   | (with_reducible exact ih0 _ _ _ _ _ _ _ _ _ _ _ _ _ _)
   | (with_reducible exact ih1 _ _ _ _ _ _ _ _ _ _ _ _ _ _ _)
   | (with_reducible exact ih2 _ _ _ _ _ _ _ _ _ _ _ _ _)
   | (with_reducible exact ih3 _ _ _ _ _ _ _ _ _ _ _ _ _ _ _)
   | (with_reducible exact ih4 _ _ _ _ _ _ _ _ _ _ _ _ _ _ _ _)
   | (with_reducible exact ih5 _ _ _ _ _ _ _ _ _ _ _ _ _ _ _ _ _ _ _)
   | (with_reducible exact stopgateref03_Fix.mono _ _)
   | (with_reducible exact LeO.refl _)
   | (with_reducible exact LeO.none _)
   | (with_reducible refine LeO.ite ?_ ?_)
   | (with_reducible refine LeO.bind ?_ (fun _ => ?_))
   | exact ih0 _ _ _ _ _ _ _ _ _ _ _ _ _ _
   | exact ih1 _ _ _ _ _ _ _ _ _ _ _ _ _ _ _
   | exact ih2 _ _ _ _ _ _ _ _ _ _ _ _ _
   | exact ih3 _ _ _ _ _ _ _ _ _ _ _ _ _ _ _
   | exact ih4 _ _ _ _ _ _ _ _ _ _ _ _ _ _ _ _
   | exact ih5 _ _ _ _ _ _ _ _ _ _ _ _ _ _ _ _ _ _ _
   | exact stopgateref03_Fix.mono _ _
   | exact LeO.none _
   | refine LeO.ite ?_ ?_
   | refine LeO.bind ?_ (fun _ => ?_)
  ·intro y0 y1 y2 y3 y4 y5 y6 y7 y8 y9 y10 y11 y12 y13 y14 y15 y16 y17 y18
   unfold stopgateref05_Fix.j5
   repeat' first
   | (with_reducible exact ih0 _ _ _ _ _ _ _ _ _ _ _ _ _ _)
   | (with_reducible exact ih1 _ _ _ _ _ _ _ _ _ _ _ _ _ _ _)
   | (with_reducible exact ih2 _ _ _ _ _ _ _ _ _ _ _ _ _)
   | (with_reducible exact ih3 _ _ _ _ _ _ _ _ _ _ _ _ _ _ _)
   | (with_reducible exact ih4 _ _ _ _ _ _ _ _ _ _ _ _ _ _ _ _)
   | (with_reducible exact ih5 _ _ _ _ _ _ _ _ _ _ _ _ _ _ _ _ _ _ _)
   | (with_reducible exact stopgateref03_Fix.mono _ _)
   | (with_reducible exact LeO.refl _)
   | (with_reducible exact LeO.none _)
   | (with_reducible refine LeO.ite ?_ ?_)
   | (with_reducible refine LeO.bind ?_ (fun _ => ?_))
   | exact ih0 _ _ _ _ _ _ _ _ _ _ _ _ _ _
   | exact ih1 _ _ _ _ _ _ _ _ _ _ _ _ _ _ _
   | exact ih2 _ _ _ _ _ _ _ _ _ _ _ _ _
   | exact ih3 _ _ _ _ _ _ _ _ _ _ _ _ _ _ _
   | exact ih4 _ _ _ _ _ _ _ _ _ _ _ _ _ _ _ _
   | exact ih5 _ _ _ _ _ _ _ _ _ _ _ _ _ _ _ _ _ _ _
   | exact stopgateref03_Fix.mono _ _
   | exact LeO.none _
   | refine LeO.ite ?_ ?_
   | refine LeO.bind ?_ (fun _ => ?_)
theorem stopgateref05_Fix.mono : ∀ a0 a1 a2 a3 a4 a5 a6 k, LeO (stopgateref05_Fix.f k a0 a1 a2 a3 a4 a5 a6) (stopgateref05_Fix.f (k + 1) a0 a1 a2 a3 a4 a5 a6) := by
 intro a0 a1 a2 a3 a4 a5 a6 k
 obtain ⟨ih0, ih1, ih2, ih3, ih4, ih5⟩ := stopgateref05_Fix.mono_l k
 unfold stopgateref05_Fix.f
 repeat' first
   | (with_reducible exact ih0 _ _ _ _ _ _ _ _ _ _ _ _ _ _)
   | (with_reducible exact ih1 _ _ _ _ _ _ _ _ _ _ _ _ _ _ _)
   | (with_reducible exact ih2 _ _ _ _ _ _ _ _ _ _ _ _ _)
   | (with_reducible exact ih3 _ _ _ _ _ _ _ _ _ _ _ _ _ _ _)
   | (with_reducible exact ih4 _ _ _ _ _ _ _ _ _ _ _ _ _ _ _ _)
   | (with_reducible exact ih5 _ _ _ _ _ _ _ _ _ _ _ _ _ _ _ _ _ _ _)
   | (with_reducible exact stopgateref03_Fix.mono _ _)
   | (with_reducible exact LeO.refl _)
   | (with_reducible exact LeO.none _)
   | (with_reducible refine LeO.ite ?_ ?_)
   | (with_reducible refine LeO.bind ?_ (fun _ => ?_))
   | exact ih0 _ _ _ _ _ _ _ _ _ _ _ _ _ _
   | exact ih1 _ _ _ _ _ _ _ _ _ _ _ _ _ _ _
   | exact ih2 _ _ _ _ _ _ _ _ _ _ _ _ _
   | exact ih3 _ _ _ _ _ _ _ _ _ _ _ _ _ _ _
   | exact ih4 _ _ _ _ _ _ _ _ _ _ _ _ _ _ _ _
   | exact ih5 _ _ _ _ _ _ _ _ _ _ _ _ _ _ _ _ _ _ _
   | exact stopgateref03_Fix.mono _ _
   | exact LeO.none _
   | refine LeO.ite ?_ ?_
   | refine LeO.bind ?_ (fun _ => ?_)
def stopgateref05_Fix.T1 : Bool × List (List Nat × List Nat) := (true, [([], []), ([0], [0]), ([1], [1]), ([2], [2]), ([3], [3]), ([4], [4]), ([], []), ([6], [6]), ([7], [7]), ([8], [8]), ([9], [9]), ([], []), ([11], [11]), ([12], [12]), ([13], [13]), ([14], [14]), ([15], [15]), ([], []), ([17], [17]), ([18], [18]), ([19], [19]), ([20], [20]), ([21], [21]), ([], []), ([23], [23]), ([24], [24]), ([5, 10, 16, 22, 25], [5, 10, 16, 22, 25]), ([], []), ([27, 26, 25, 0, 1, 2, 3, 4, 5, 6, 7, 8, 9, 10, 11, 12, 13, 14, 15, 16, 17, 18, 19, 20, 21, 22, 23, 24, 25, 26, 27], [26, 27])])
def stopgateref05_Fix.B1 : List Nat := [0, 1, 3, 7, 15, 31, 0, 64, 192, 448, 960, 0, 2048, 6144, 14336, 30720, 63488, 0, 131072, 393216, 917504, 1966080, 4063232, 0, 8388608, 25165824, 67108863, 0, 268435455]
theorem stopgateref05_Fix.tab1 : rtab .any (opsOf Try.f40 1) = stopgateref05_Fix.T1 := by kernel_rfl
theorem stopgateref05_Fix.bits1 : waitsOk stopgateref05_Fix.T1.2 stopgateref05_Fix.B1 = true := by kernel_rfl
def stopgateref05_Fix.T5 : Bool × List (List Nat × List Nat) := (true, [([], []), ([0], [0]), ([], []), ([2], [2]), ([], []), ([3, 4], [3, 4]), ([5], [5]), ([6], [6]), ([], []), ([8], [8]), ([9], [9]), ([10], [10]), ([7, 11], [7, 11]), ([12], [12]), ([13], [13]), ([1, 14], [1, 14]), ([0, 1, 2, 3, 4, 5, 6, 7, 8, 9, 10, 11, 12, 13, 14, 15], []), ([16, 15, 15, 0, 1, 2, 3, 4, 5, 6, 7, 8, 9, 10, 11, 12, 13, 14, 15], [15, 16])])
def stopgateref05_Fix.B5 : List Nat := [0, 1, 0, 4, 0, 28, 60, 124, 0, 256, 768, 1792, 4092, 8188, 16380, 32767, 65535, 131071]
theorem stopgateref05_Fix.tab5 : rtab .any (opsOf Try.f40 5) = stopgateref05_Fix.T5 := by kernel_rfl
theorem stopgateref05_Fix.bits5 : waitsOk stopgateref05_Fix.T5.2 stopgateref05_Fix.B5 = true := by kernel_rfl
set_option maxHeartbeats 8000000 in
set_option maxRecDepth 100000 in
theorem stopgateref05_Fix.calls (k : Nat) (a0_0 : Int) (a0_1 : Int) (a0_2 : Int) (a0_3 : Int) (A0_4 : Option Addr) (c0_4 : Nat) (l0_4 : List (S176)) (A0_5 : Option Addr) (c0_5 : Nat) (l0_5 : List Int) (A0_6 : Option Addr) (c0_6 : Nat) (l0_6 : List (S86)) (r1 : Int) (r2 : Int) (r3 : Int) (r4 : Int) (r5 : List (S176)) (r6 : List Int) (r7 : List (S86)) (w : World) (hr0_4 : Kd.C k176 w A0_4 l0_4.length l0_4) (hc0_4 : l0_4.length ≤ c0_4) (hr0_5 : Kd.C (Kd.int .i64) w A0_5 l0_5.length l0_5) (hc0_5 : l0_5.length ≤ c0_5) (hr0_6 : Kd.C k86 w A0_6 l0_6.length l0_6) (hc0_6 : l0_6.length ≤ c0_6) (h : stopgateref05_Fix.f k a0_0 a0_1 a0_2 a0_3 l0_4 l0_5 l0_6 = some (r1, r2, r3, r4, r5, r6, r7)) :
  Calls Try.prog 40 #[.agg #[.int .i64 a0_0, .int .i64 a0_1, .int .i64 a0_2, .int .i64 a0_3, .slice A0_4 l0_4.length c0_4, .slice A0_5 l0_5.length c0_5, .slice A0_6 l0_6.length c0_6]] w fun e w' => ∃ v4_ v5_ v6_ : Value, e = .returned (.agg #[.int .i64 r1, .int .i64 r2, .int .i64 r3, .int .i64 r4, v4_, v5_, v6_]) ∧ Kd.R k176 176 w' w.heap.size (fun _ => True) v4_ r5 ∧ Kd.R (Kd.int .i64) 3 w' w.heap.size (fun _ => True) v5_ r6 ∧ Kd.R k86 86 w' w.heap.size (fun _ => True) v6_ r7 ∧ Below w.heap.size w w' := by
 have hu81 := Try.underlying81
 have hu86 := Try.underlying86
 have HR0_4 := A0s.mk hr0_4
 have HC0_4 := A0s.mk hc0_4
 clear hr0_4 hc0_4
 have HR0_5 := A0s.mk hr0_5
 have HC0_5 := A0s.mk hc0_5
 clear hr0_5 hc0_5
 have HR0_6 := A0s.mk hr0_6
 have HC0_6 := A0s.mk hc0_6
 clear hr0_6 hc0_6
 have HB := A0s.mk (Below.refl w.heap.size w)
 have H : ((stopgateref03_Fix.f k l0_4).bind fun t130 => (stopgateref05_Fix.l0 k 0 a0_0 a0_1 a0_2 a0_3 l0_4 l0_5 l0_6 (wrap64 (1 + (wrap64 (Int.tmod (IntKind.u64.wrap (a0_0)) 3)))) (wrap64 (Int.tmod (IntKind.u64.wrap (a0_1)) 4)) (wrap64 (1 + (wrap64 (Int.tmod (IntKind.u64.wrap (a0_2)) 6)))) (wrap64 (1 + (wrap64 (Int.tmod (IntKind.u64.wrap (a0_3)) 8)))) t130 ([] : List Int))) = some (r1, r2, r3, r4, r5, r6, r7) := h
 clear h
 replace H := Option.bind_eq_some_iff.mp H
 obtain ⟨t130, A20, H⟩ := H
 replace H : (stopgateref05_Fix.l0 k 0 a0_0 a0_1 a0_2 a0_3 l0_4 l0_5 l0_6 (wrap64 (1 + (wrap64 (Int.tmod (IntKind.u64.wrap (a0_0)) 3)))) (wrap64 (Int.tmod (IntKind.u64.wrap (a0_1)) 4)) (wrap64 (1 + (wrap64 (Int.tmod (IntKind.u64.wrap (a0_2)) 6)))) (wrap64 (1 + (wrap64 (Int.tmod (IntKind.u64.wrap (a0_3)) 8)))) t130 ([] : List Int)) = some (r1, r2, r3, r4, r5, r6, r7) := H
 have A2 := A0s.mk A20
 clear A20
 have H' := A0s.mk H
 clear H
 go_enter Try.func40, Try.ntmps40
 try go_wp2_with (first | ((with_reducible refine gate_dst (N := 1) rfl ?_); refine box_event ?hg (N := 1) ?hd (cs := #[.int .i64 a0_0, .int .i64 a0_1, .int .i64 a0_2, .int .i64 a0_3, .slice A0_4 l0_4.length c0_4, .slice A0_5 l0_5.length c0_5, .slice A0_6 l0_6.length c0_6]) (t := 81) ?hr ?_; (case hd => rfl); (case hg => rfl); (case hr => first | (go_simp; done) | (go_simp; rfl)); intro gb128 hg w3 hbox hb; have n0_ := A0s.mk (below_step (by repeat (first | (with_reducible first | exact HB.out | apply bA | apply bN | apply bD) | exact HB.out)) hb); have n1_ := A0s.mk (hbox); have n2_ := A0s.mk ((by rw [hg]; exact (below_size (by repeat (first | (with_reducible first | exact HB.out | apply bA | apply bN | apply bD) | exact HB.out))) : w.heap.size ≤ gb128)); have n3_ := A0s.mk ((by rw [hg]; exact (below_size (by repeat (first | (with_reducible first | exact HB.out | apply bA | apply bN | apply bD) | exact HB.out))) : w.heap.size ≤ gb128)); clear HB; have HB := n0_; have BK128 := n1_; have GW128 := n2_; have GE128 := n3_; clear n0_ n1_ n2_ n3_; clear hb hbox hg) | ((with_reducible refine gate_dst (N := 2) rfl ?_); refine box_event ?hg (N := 2) ?hd (cs := #[.int .i64 0, .int .i64 0, .int .i64 0, .int .i64 0, .slice none 0 0, .slice none 0 0, .slice none 0 0]) (t := 81) ?hr ?_; (case hd => rfl); (case hg => rfl); (case hr => first | (go_simp; done) | (go_simp; rfl)); intro gb129 hg w4 hbox hb; have n0_ := A0s.mk (blk_below (g := gb128) (o := .cells #[.int .i64 a0_0, .int .i64 a0_1, .int .i64 a0_2, .int .i64 a0_3, .slice A0_4 l0_4.length c0_4, .slice A0_5 l0_5.length c0_5, .slice A0_6 l0_6.length c0_6] 81 (0, 0)) (by (with_reducible repeat (first | apply kN | apply kD | apply kA)); exact BK128.out) hb); have n1_ := A0s.mk (below_step (by repeat (first | (with_reducible first | exact HB.out | apply bA | apply bN | apply bD | refine bS ?_ GE128.out) | exact HB.out)) hb); have n2_ := A0s.mk (hbox); have n3_ := A0s.mk ((by rw [hg]; exact (below_size (by repeat (first | (with_reducible first | exact HB.out | apply bA | apply bN | apply bD | refine bS ?_ GE128.out) | exact HB.out))) : w.heap.size ≤ gb129)); have n4_ := A0s.mk ((by rw [hg]; exact (below_size (by repeat (first | (with_reducible first | exact HB.out | apply bA | apply bN | apply bD | refine bS ?_ GE128.out) | exact HB.out))) : w.heap.size ≤ gb129)); have n5_ := A0s.mk ((by rw [hg]; exact Nat.ne_of_lt (blk_lt (g := gb128) (o := .cells #[.int .i64 a0_0, .int .i64 a0_1, .int .i64 a0_2, .int .i64 a0_3, .slice A0_4 l0_4.length c0_4, .slice A0_5 l0_5.length c0_5, .slice A0_6 l0_6.length c0_6] 81 (0, 0)) (by (with_reducible repeat (first | apply kN | apply kD | apply kA)); exact BK128.out)) : gb128 ≠ gb129)); have n6_ := A0s.mk ((by rw [hg]; exact Nat.ne_of_gt (blk_lt (g := gb128) (o := .cells #[.int .i64 a0_0, .int .i64 a0_1, .int .i64 a0_2, .int .i64 a0_3, .slice A0_4 l0_4.length c0_4, .slice A0_5 l0_5.length c0_5, .slice A0_6 l0_6.length c0_6] 81 (0, 0)) (by (with_reducible repeat (first | apply kN | apply kD | apply kA)); exact BK128.out)) : gb129 ≠ gb128)); clear BK128; clear HB; have BK128 := n0_; have HB := n1_; have BK129 := n2_; have GW129 := n3_; have GE129 := n4_; have NB128_129 := n5_; have NB129_128 := n6_; clear n0_ n1_ n2_ n3_ n4_ n5_ n6_; clear hb hbox hg))
 have n0_ := A0s.mk (kD BK128.out)
 have n1_ := A0s.mk (kD BK129.out)
 have n2_ := A0s.mk (bD HB.out)
 clear BK128
 clear BK129
 clear HB
 have BK128 := n0_
 have BK129 := n1_
 have HB := n2_
 clear n0_ n1_ n2_
 refine start_ (n := 29) (S := fun w' => w'.cell? ⟨gb128, 0, none⟩ = some (.int .i64 a0_0) ∧ w'.cell? ⟨gb128, 1, none⟩ = some (.int .i64 a0_1) ∧ w'.cell? ⟨gb128, 2, none⟩ = some (.int .i64 a0_2) ∧ w'.cell? ⟨gb128, 3, none⟩ = some (.int .i64 a0_3) ∧ w'.cell? ⟨gb128, 4, none⟩ = some (.slice A0_4 l0_4.length c0_4) ∧ w'.cell? ⟨gb128, 5, none⟩ = some (.slice A0_5 l0_5.length c0_5) ∧ w'.cell? ⟨gb128, 6, none⟩ = some (.slice A0_6 l0_6.length c0_6)) (ds := []) #[false, false, false, false, false, false, false, false, false, false, false, false, false, false, false, false, false, false, false, false, false, false, false, false, false, false, false, false, false] (by kernel_rfl) rfl rfl ⟨(kC BK128.out 0).trans rfl, (kC BK128.out 1).trans rfl, (kC BK128.out 2).trans rfl, (kC BK128.out 3).trans rfl, (kC BK128.out 4).trans rfl, (kC BK128.out 5).trans rfl, (kC BK128.out 6).trans rfl⟩ (fun hHeld => ?_); refine with_tabW stopgateref05_Fix.tab1 stopgateref05_Fix.bits1 (fun HT_ HW_ => ?_)
 generalize w4.drew = w5 at BK128 BK129 HB hHeld ⊢
 refine pure_ (i := 0) (N := some 8) (v := ?_) (a' := ?_) #[true, false, false, false, false, false, false, false, false, false, false, false, false, false, false, false, false, false, false, false, false, false, false, false, false, false, false, false, false] rfl rfl (any_of HT_.out (by kernel_rfl)) (fun _ _ _ h => h) (Or.inl ⟨by rfl, ?_⟩) ?_ ?_
 rotate_left
 ·intro w'
  go_simp
  with_reducible rfl
 rotate_left
 ·simp only [Act.put, List.setIfInBounds_toArray, List.set_cons_zero, List.set_cons_succ, i64_w, i32_w]
  rfl
 refine pure_ (i := 6) (N := some 14) (v := ?_) (a' := ?_) #[true, false, false, false, false, false, true, false, false, false, false, false, false, false, false, false, false, false, false, false, false, false, false, false, false, false, false, false, false] rfl rfl (any_of HT_.out (by kernel_rfl)) (fun _ _ _ h => h) (Or.inl ⟨by rfl, ?_⟩) ?_ ?_
 rotate_left
 ·intro w'
  go_simp
  with_reducible rfl
 rotate_left
 ·simp only [Act.put, List.setIfInBounds_toArray, List.set_cons_zero, List.set_cons_succ, i64_w, i32_w]
  rfl
 refine pure_ (i := 11) (N := some 19) (v := ?_) (a' := ?_) #[true, false, false, false, false, false, true, false, false, false, false, true, false, false, false, false, false, false, false, false, false, false, false, false, false, false, false, false, false] rfl rfl (any_of HT_.out (by kernel_rfl)) (fun _ _ _ h => h) (Or.inl ⟨by rfl, ?_⟩) ?_ ?_
 rotate_left
 ·intro w'
  go_simp
  with_reducible rfl
 rotate_left
 ·simp only [Act.put, List.setIfInBounds_toArray, List.set_cons_zero, List.set_cons_succ, i64_w, i32_w]
  rfl
 refine pure_ (i := 17) (N := some 25) (v := ?_) (a' := ?_) #[true, false, false, false, false, false, true, false, false, false, false, true, false, false, false, false, false, true, false, false, false, false, false, false, false, false, false, false, false] rfl rfl (any_of HT_.out (by kernel_rfl)) (fun _ _ _ h => h) (Or.inl ⟨by rfl, ?_⟩) ?_ ?_
 rotate_left
 ·intro w'
  go_simp
  with_reducible rfl
 rotate_left
 ·simp only [Act.put, List.setIfInBounds_toArray, List.set_cons_zero, List.set_cons_succ, i64_w, i32_w]
  rfl
 refine pure_ (i := 23) (N := some 31) (v := ?_) (a' := ?_) #[true, false, false, false, false, false, true, false, false, false, false, true, false, false, false, false, false, true, false, false, false, false, false, true, false, false, false, false, false] rfl rfl (any_of HT_.out (by kernel_rfl)) (fun _ _ _ h => h) (Or.inl ⟨by rfl, ?_⟩) ?_ ?_
 rotate_left
 ·intro w'
  go_simp
  with_reducible rfl
 rotate_left
 ·simp only [Act.put, List.setIfInBounds_toArray, List.set_cons_zero, List.set_cons_succ, i64_w, i32_w]
  rfl
 refine take_ (i := 1) (N := some 9) (v := ?_) (a' := ?_) #[true, true, false, false, false, false, true, false, false, false, false, true, false, false, false, false, false, true, false, false, false, false, false, true, false, false, false, false, false] rfl rfl (take_ofW HT_.out HW_.out (by kernel_rfl)) (fun _ _ _ h => h) (Or.inl ⟨by rfl, ?_⟩) hHeld ?_ ?_
 rotate_left
 ·rintro w' ⟨s0, s1, s2, s3, s4, s5, s6⟩
  go_simp
  with_reducible rfl
 rotate_left
 ·simp only [Act.put, List.setIfInBounds_toArray, List.set_cons_zero, List.set_cons_succ, i64_w, i32_w]
  rfl
 refine pure_ (i := 2) (N := some 10) (v := ?_) (a' := ?_) #[true, true, true, false, false, false, true, false, false, false, false, true, false, false, false, false, false, true, false, false, false, false, false, true, false, false, false, false, false] rfl rfl (any_of HT_.out (by kernel_rfl)) (fun _ _ _ h => h) (Or.inl ⟨by rfl, ?_⟩) ?_ ?_
 rotate_left
 ·intro w'
  go_simp
  with_reducible rfl
 rotate_left
 ·simp only [Act.put, List.setIfInBounds_toArray, List.set_cons_zero, List.set_cons_succ, i64_w, i32_w]
  rfl
 refine pure_ (i := 3) (N := some 11) (v := ?_) (a' := ?_) #[true, true, true, true, false, false, true, false, false, false, false, true, false, false, false, false, false, true, false, false, false, false, false, true, false, false, false, false, false] rfl rfl (any_of HT_.out (by kernel_rfl)) (fun _ _ _ h => h) (Or.inl ⟨by rfl, ?_⟩) ?_ ?_
 rotate_left
 ·intro w'
  go_simp
  with_reducible rfl
 rotate_left
 ·simp only [Act.put, List.setIfInBounds_toArray, List.set_cons_zero, List.set_cons_succ, i64_w, i32_w]
  rfl
 refine pure_ (i := 4) (N := some 12) (v := ?_) (a' := ?_) #[true, true, true, true, true, false, true, false, false, false, false, true, false, false, false, false, false, true, false, false, false, false, false, true, false, false, false, false, false] rfl rfl (any_of HT_.out (by kernel_rfl)) (fun _ _ _ h => h) (Or.inl ⟨by rfl, ?_⟩) ?_ ?_
 rotate_left
 ·intro w'
  go_simp
  with_reducible rfl
 rotate_left
 ·simp only [Act.put, List.setIfInBounds_toArray, List.set_cons_zero, List.set_cons_succ, i64_w, i32_w]
  rfl
 refine pure_ (i := 5) (N := some 13) (v := ?_) (a' := ?_) #[true, true, true, true, true, true, true, false, false, false, false, true, false, false, false, false, false, true, false, false, false, false, false, true, false, false, false, false, false] rfl rfl (any_of HT_.out (by kernel_rfl)) (fun _ _ _ h => h) (Or.inl ⟨by rfl, ?_⟩) ?_ ?_
 rotate_left
 ·intro w'
  go_simp
  with_reducible rfl
 rotate_left
 ·simp only [Act.put, List.setIfInBounds_toArray, List.set_cons_zero, List.set_cons_succ, i64_w, i32_w]
  rfl
 refine take_ (i := 7) (N := some 15) (v := ?_) (a' := ?_) #[true, true, true, true, true, true, true, true, false, false, false, true, false, false, false, false, false, true, false, false, false, false, false, true, false, false, false, false, false] rfl rfl (take_ofW HT_.out HW_.out (by kernel_rfl)) (fun _ _ _ h => h) (Or.inl ⟨by rfl, ?_⟩) hHeld ?_ ?_
 rotate_left
 ·rintro w' ⟨s0, s1, s2, s3, s4, s5, s6⟩
  go_simp
  with_reducible rfl
 rotate_left
 ·simp only [Act.put, List.setIfInBounds_toArray, List.set_cons_zero, List.set_cons_succ, i64_w, i32_w]
  rfl
 refine pure_ (i := 8) (N := some 16) (v := ?_) (a' := ?_) #[true, true, true, true, true, true, true, true, true, false, false, true, false, false, false, false, false, true, false, false, false, false, false, true, false, false, false, false, false] rfl rfl (any_of HT_.out (by kernel_rfl)) (fun _ _ _ h => h) (Or.inl ⟨by rfl, ?_⟩) ?_ ?_
 rotate_left
 ·intro w'
  go_simp
  with_reducible rfl
 rotate_left
 ·simp only [Act.put, List.setIfInBounds_toArray, List.set_cons_zero, List.set_cons_succ, i64_w, i32_w]
  rfl
 refine pure_ (i := 9) (N := some 17) (v := ?_) (a' := ?_) #[true, true, true, true, true, true, true, true, true, true, false, true, false, false, false, false, false, true, false, false, false, false, false, true, false, false, false, false, false] rfl rfl (any_of HT_.out (by kernel_rfl)) (fun _ _ _ h => h) (Or.inl ⟨by rfl, ?_⟩) ?_ ?_
 rotate_left
 ·intro w'
  go_simp
  with_reducible rfl
 rotate_left
 ·simp only [Act.put, List.setIfInBounds_toArray, List.set_cons_zero, List.set_cons_succ, i64_w, i32_w]
  rfl
 refine pure_ (i := 10) (N := some 18) (v := ?_) (a' := ?_) #[true, true, true, true, true, true, true, true, true, true, true, true, false, false, false, false, false, true, false, false, false, false, false, true, false, false, false, false, false] rfl rfl (any_of HT_.out (by kernel_rfl)) (fun _ _ _ h => h) (Or.inl ⟨by rfl, ?_⟩) ?_ ?_
 rotate_left
 ·intro w'
  go_simp
  with_reducible rfl
 rotate_left
 ·simp only [Act.put, List.setIfInBounds_toArray, List.set_cons_zero, List.set_cons_succ, i64_w, i32_w]
  rfl
 refine take_ (i := 12) (N := some 20) (v := ?_) (a' := ?_) #[true, true, true, true, true, true, true, true, true, true, true, true, true, false, false, false, false, true, false, false, false, false, false, true, false, false, false, false, false] rfl rfl (take_ofW HT_.out HW_.out (by kernel_rfl)) (fun _ _ _ h => h) (Or.inl ⟨by rfl, ?_⟩) hHeld ?_ ?_
 rotate_left
 ·rintro w' ⟨s0, s1, s2, s3, s4, s5, s6⟩
  go_simp
  with_reducible rfl
 rotate_left
 ·simp only [Act.put, List.setIfInBounds_toArray, List.set_cons_zero, List.set_cons_succ, i64_w, i32_w]
  rfl
 refine pure_ (i := 13) (N := some 21) (v := ?_) (a' := ?_) #[true, true, true, true, true, true, true, true, true, true, true, true, true, true, false, false, false, true, false, false, false, false, false, true, false, false, false, false, false] rfl rfl (any_of HT_.out (by kernel_rfl)) (fun _ _ _ h => h) (Or.inl ⟨by rfl, ?_⟩) ?_ ?_
 rotate_left
 ·intro w'
  go_simp
  with_reducible rfl
 rotate_left
 ·simp only [Act.put, List.setIfInBounds_toArray, List.set_cons_zero, List.set_cons_succ, i64_w, i32_w]
  rfl
 refine pure_ (i := 14) (N := some 22) (v := ?_) (a' := ?_) #[true, true, true, true, true, true, true, true, true, true, true, true, true, true, true, false, false, true, false, false, false, false, false, true, false, false, false, false, false] rfl rfl (any_of HT_.out (by kernel_rfl)) (fun _ _ _ h => h) (Or.inl ⟨by rfl, ?_⟩) ?_ ?_
 rotate_left
 ·intro w'
  go_simp
  with_reducible rfl
 rotate_left
 ·simp only [Act.put, List.setIfInBounds_toArray, List.set_cons_zero, List.set_cons_succ, i64_w, i32_w]
  rfl
 refine pure_ (i := 15) (N := some 23) (v := ?_) (a' := ?_) #[true, true, true, true, true, true, true, true, true, true, true, true, true, true, true, true, false, true, false, false, false, false, false, true, false, false, false, false, false] rfl rfl (any_of HT_.out (by kernel_rfl)) (fun _ _ _ h => h) (Or.inl ⟨by rfl, ?_⟩) ?_ ?_
 rotate_left
 ·intro w'
  go_simp
  with_reducible rfl
 rotate_left
 ·simp only [Act.put, List.setIfInBounds_toArray, List.set_cons_zero, List.set_cons_succ, i64_w, i32_w]
  rfl
 refine pure_ (i := 16) (N := some 24) (v := ?_) (a' := ?_) #[true, true, true, true, true, true, true, true, true, true, true, true, true, true, true, true, true, true, false, false, false, false, false, true, false, false, false, false, false] rfl rfl (any_of HT_.out (by kernel_rfl)) (fun _ _ _ h => h) (Or.inl ⟨by rfl, ?_⟩) ?_ ?_
 rotate_left
 ·intro w'
  go_simp
  with_reducible rfl
 rotate_left
 ·simp only [Act.put, List.setIfInBounds_toArray, List.set_cons_zero, List.set_cons_succ, i64_w, i32_w]
  rfl
 refine take_ (i := 18) (N := some 26) (v := ?_) (a' := ?_) #[true, true, true, true, true, true, true, true, true, true, true, true, true, true, true, true, true, true, true, false, false, false, false, true, false, false, false, false, false] rfl rfl (take_ofW HT_.out HW_.out (by kernel_rfl)) (fun _ _ _ h => h) (Or.inl ⟨by rfl, ?_⟩) hHeld ?_ ?_
 rotate_left
 ·rintro w' ⟨s0, s1, s2, s3, s4, s5, s6⟩
  go_simp
  with_reducible rfl
 rotate_left
 ·simp only [Act.put, List.setIfInBounds_toArray, List.set_cons_zero, List.set_cons_succ, i64_w, i32_w]
  rfl
 refine pure_ (i := 19) (N := some 27) (v := ?_) (a' := ?_) #[true, true, true, true, true, true, true, true, true, true, true, true, true, true, true, true, true, true, true, true, false, false, false, true, false, false, false, false, false] rfl rfl (any_of HT_.out (by kernel_rfl)) (fun _ _ _ h => h) (Or.inl ⟨by rfl, ?_⟩) ?_ ?_
 rotate_left
 ·intro w'
  go_simp
  with_reducible rfl
 rotate_left
 ·simp only [Act.put, List.setIfInBounds_toArray, List.set_cons_zero, List.set_cons_succ, i64_w, i32_w]
  rfl
 refine pure_ (i := 20) (N := some 28) (v := ?_) (a' := ?_) #[true, true, true, true, true, true, true, true, true, true, true, true, true, true, true, true, true, true, true, true, true, false, false, true, false, false, false, false, false] rfl rfl (any_of HT_.out (by kernel_rfl)) (fun _ _ _ h => h) (Or.inl ⟨by rfl, ?_⟩) ?_ ?_
 rotate_left
 ·intro w'
  go_simp
  with_reducible rfl
 rotate_left
 ·simp only [Act.put, List.setIfInBounds_toArray, List.set_cons_zero, List.set_cons_succ, i64_w, i32_w]
  rfl
 refine pure_ (i := 21) (N := some 29) (v := ?_) (a' := ?_) #[true, true, true, true, true, true, true, true, true, true, true, true, true, true, true, true, true, true, true, true, true, true, false, true, false, false, false, false, false] rfl rfl (any_of HT_.out (by kernel_rfl)) (fun _ _ _ h => h) (Or.inl ⟨by rfl, ?_⟩) ?_ ?_
 rotate_left
 ·intro w'
  go_simp
  with_reducible rfl
 rotate_left
 ·simp only [Act.put, List.setIfInBounds_toArray, List.set_cons_zero, List.set_cons_succ, i64_w, i32_w]
  rfl
 refine pure_ (i := 22) (N := some 30) (v := ?_) (a' := ?_) #[true, true, true, true, true, true, true, true, true, true, true, true, true, true, true, true, true, true, true, true, true, true, true, true, false, false, false, false, false] rfl rfl (any_of HT_.out (by kernel_rfl)) (fun _ _ _ h => h) (Or.inl ⟨by rfl, ?_⟩) ?_ ?_
 rotate_left
 ·intro w'
  go_simp
  with_reducible rfl
 rotate_left
 ·simp only [Act.put, List.setIfInBounds_toArray, List.set_cons_zero, List.set_cons_succ, i64_w, i32_w]
  rfl
 refine take_ (i := 24) (N := some 32) (v := ?_) (a' := ?_) #[true, true, true, true, true, true, true, true, true, true, true, true, true, true, true, true, true, true, true, true, true, true, true, true, true, false, false, false, false] rfl rfl (take_ofW HT_.out HW_.out (by kernel_rfl)) (fun _ _ _ h => h) (Or.inl ⟨by rfl, ?_⟩) hHeld ?_ ?_
 rotate_left
 ·rintro w' ⟨s0, s1, s2, s3, s4, s5, s6⟩
  go_simp
  with_reducible rfl
 rotate_left
 ·simp only [Act.put, List.setIfInBounds_toArray, List.set_cons_zero, List.set_cons_succ, i64_w, i32_w]
  rfl
 refine join_ (σ := Value × Nat) 1 #[true, true, true, true, true, true, true, true, true, true, true, true, true, true, true, true, true, true, true, true, true, true, true, true, true, true, true, true, false] (fun s_ => [(33, s_.1), (3, .pointer (some ⟨s_.2, 0, none⟩)), (34, .agg #[.int .i64 (wrap64 (1 + (wrap64 (Int.tmod (IntKind.u64.wrap (a0_0)) 3)))), .int .i64 (wrap64 (Int.tmod (IntKind.u64.wrap (a0_1)) 4)), .int .i64 (wrap64 (1 + (wrap64 (Int.tmod (IntKind.u64.wrap (a0_2)) 6)))), .int .i64 (wrap64 (1 + (wrap64 (Int.tmod (IntKind.u64.wrap (a0_3)) 8)))), s_.1, .slice none 0 0, .slice none 0 0])]) (fun s_ w' => (w'.cell? ⟨gb128, 0, none⟩ = some (.int .i64 a0_0) ∧ w'.cell? ⟨gb128, 1, none⟩ = some (.int .i64 a0_1) ∧ w'.cell? ⟨gb128, 2, none⟩ = some (.int .i64 a0_2) ∧ w'.cell? ⟨gb128, 3, none⟩ = some (.int .i64 a0_3) ∧ w'.cell? ⟨gb128, 4, none⟩ = some (.slice A0_4 l0_4.length c0_4) ∧ w'.cell? ⟨gb128, 5, none⟩ = some (.slice A0_5 l0_5.length c0_5) ∧ w'.cell? ⟨gb128, 6, none⟩ = some (.slice A0_6 l0_6.length c0_6)) ∧ (Kd.R k176 176 w' w.heap.size (fun _ => True) s_.1 t130) ∧ (w'.heap[gb128]? = some (.cells #[.int .i64 a0_0, .int .i64 a0_1, .int .i64 a0_2, .int .i64 a0_3, .slice A0_4 l0_4.length c0_4, .slice A0_5 l0_5.length c0_5, .slice A0_6 l0_6.length c0_6] 81 (0, 0))) ∧ (w'.heap[gb129]? = some (.cells #[.int .i64 0, .int .i64 0, .int .i64 0, .int .i64 0, .slice none 0 0, .slice none 0 0, .slice none 0 0] 81 (0, 0))) ∧ (w'.heap[s_.2]? = some (.cells #[.int .i64 0, .int .i64 0, .int .i64 0, .int .i64 0, .slice none 0 0, .slice none 0 0, .slice none 0 0] 81 (0, 0))) ∧ (w.heap.size ≤ s_.2) ∧ (w.heap.size ≤ s_.2) ∧ (gb128 ≠ s_.2) ∧ (s_.2 ≠ gb128) ∧ (gb129 ≠ s_.2) ∧ (s_.2 ≠ gb129) ∧ (Below w.heap.size w w')) ?_ ?_
 rotate_left
 ·intro hCont
  refine two_ (i := 25) (j := 27) (Ni := some 33) (Nj := some 3) #[true, true, true, true, true, true, true, true, true, true, true, true, true, true, true, true, true, true, true, true, true, true, true, true, true, true, false, false, false] #[true, true, true, true, true, true, true, true, true, true, true, true, true, true, true, true, true, true, true, true, true, true, true, true, true, false, false, true, false] rfl rfl rfl rfl (two_of HT_.out (by kernel_rfl)) (by decide) (by decide) (fun K hK => ?_) (fun K hK => ?_)
  ·skip
   refine goes_ Try.func74 (by kernel_rfl) rfl #[.slice A0_4 l0_4.length c0_4] (by rfl) rfl rfl (by (try simp only [List.map_toArray, List.map_cons, List.map_nil]); first | done | rfl | (simp only [List.length_drop, List.length_take]; rfl)) ?_
   with_reducible refine (stopgateref03_Fix.calls k _ _ l0_4 t130 _ ?side1 ?side2 A2.out).mono ?_
   (case side1 => repeat (first | exact (Kd.C_below HR0_4.out HB.out) | (with_reducible refine Kd.C_alloc ?_ _) | (with_reducible refine Kd.C_drewN ?_ _) | (with_reducible refine Kd.C_drew ?_)))
   (case side2 => exact HC0_4.out)
   rintro e w6 ⟨v131, rfl, ho0, hb⟩
   refine ⟨_, rfl, ?_⟩
   have n0_ := A0s.mk (Kd.R_lower ho0 (below_size (by repeat (first | (with_reducible first | exact HB.out | apply bA | apply bN | apply bD | refine bS ?_ GE128.out | refine bS ?_ GE129.out) | exact HB.out))))
   have n1_ := A0s.mk (blk_below (g := gb128) (o := .cells #[.int .i64 a0_0, .int .i64 a0_1, .int .i64 a0_2, .int .i64 a0_3, .slice A0_4 l0_4.length c0_4, .slice A0_5 l0_5.length c0_5, .slice A0_6 l0_6.length c0_6] 81 (0, 0)) (by (with_reducible repeat (first | apply kN | apply kD | apply kA)); exact BK128.out) hb)
   have n2_ := A0s.mk (blk_below (g := gb129) (o := .cells #[.int .i64 0, .int .i64 0, .int .i64 0, .int .i64 0, .slice none 0 0, .slice none 0 0, .slice none 0 0] 81 (0, 0)) (by (with_reducible repeat (first | apply kN | apply kD | apply kA)); exact BK129.out) hb)
   have n3_ := A0s.mk (below_step (by repeat (first | (with_reducible first | exact HB.out | apply bA | apply bN | apply bD | refine bS ?_ GE128.out | refine bS ?_ GE129.out) | exact HB.out)) hb)
   clear BK128
   clear BK129
   clear HB
   have HO132 := n0_
   have BK128 := n1_
   have BK129 := n2_
   have HB := n3_
   clear n0_ n1_ n2_ n3_
   (try clear hb)
   (try clear hb2)
   (try clear hk)
   (try clear hi)
   (try clear ho0)
   obtain ⟨Ao7, co7, eo7⟩ := Kd.R_slice HO132.out
   (first | subst eo7 | (injection eo7 with f1_ f2_ f3_; have f4_ := f1_.symm; have f5_ := f3_.symm; clear f1_ f2_ f3_; subst f4_; subst f5_))
   refine hK.out _ _ ⟨(kC BK128.out 0).trans rfl, (kC BK128.out 1).trans rfl, (kC BK128.out 2).trans rfl, (kC BK128.out 3).trans rfl, (kC BK128.out 4).trans rfl, (kC BK128.out 5).trans rfl, (kC BK128.out 6).trans rfl⟩ (fun hHeld => ?_)
   clear hK K
   refine norm_ (a' := ?_) ?_ ?_
   rotate_left
   ·show Act.put _ (some 33) _ = _
    simp only [Act.put, List.setIfInBounds_toArray, List.set_cons_zero, List.set_cons_succ, i64_w, i32_w]
    rfl
   refine pure_ (i := 26) (N := some 34) (v := ?_) (a' := ?_) #[true, true, true, true, true, true, true, true, true, true, true, true, true, true, true, true, true, true, true, true, true, true, true, true, true, true, true, false, false] rfl rfl (any_of HT_.out (by kernel_rfl)) (fun _ _ _ h => h) (Or.inl ⟨by rfl, ?_⟩) ?_ ?_
   rotate_left
   ·intro w'
    go_simp
    with_reducible rfl
   rotate_left
   ·simp only [Act.put, List.setIfInBounds_toArray, List.set_cons_zero, List.set_cons_succ, i64_w, i32_w]
    rfl
   refine one_ (i := 27) (N := some 3) #[true, true, true, true, true, true, true, true, true, true, true, true, true, true, true, true, true, true, true, true, true, true, true, true, true, true, true, true, false] rfl rfl (one_of HT_.out (by kernel_rfl)) (by decide) (fun K hK => ?_)
   refine box_step ?hg (N := 3) ?hd (cs := #[.int .i64 0, .int .i64 0, .int .i64 0, .int .i64 0, .slice none 0 0, .slice none 0 0, .slice none 0 0]) (t := 81) ?hr ?_; (case hd => rfl); (case hg => rfl); (case hr => first | (go_simp; done) | (go_simp; rfl))
   intro gb133 hg w8 hbox hb
   have n0_ := A0s.mk (Kd.R_below (by (with_reducible repeat (first | apply Kd.RA | apply Kd.RN | apply Kd.RD)); exact HO132.out) hb)
   have n1_ := A0s.mk (blk_below (g := gb128) (o := .cells #[.int .i64 a0_0, .int .i64 a0_1, .int .i64 a0_2, .int .i64 a0_3, .slice A0_4 l0_4.length c0_4, .slice A0_5 l0_5.length c0_5, .slice A0_6 l0_6.length c0_6] 81 (0, 0)) (by (with_reducible repeat (first | apply kN | apply kD | apply kA)); exact BK128.out) hb)
   have n2_ := A0s.mk (blk_below (g := gb129) (o := .cells #[.int .i64 0, .int .i64 0, .int .i64 0, .int .i64 0, .slice none 0 0, .slice none 0 0, .slice none 0 0] 81 (0, 0)) (by (with_reducible repeat (first | apply kN | apply kD | apply kA)); exact BK129.out) hb)
   have n3_ := A0s.mk (below_step (by repeat (first | (with_reducible first | exact HB.out | apply bA | apply bN | apply bD | refine bS ?_ GE128.out | refine bS ?_ GE129.out) | exact HB.out)) hb)
   have n4_ := A0s.mk (hbox)
   have n5_ := A0s.mk ((by rw [hg]; exact (below_size (by repeat (first | (with_reducible first | exact HB.out | apply bA | apply bN | apply bD | refine bS ?_ GE128.out | refine bS ?_ GE129.out) | exact HB.out))) : w.heap.size ≤ gb133))
   have n6_ := A0s.mk ((by rw [hg]; exact (below_size (by repeat (first | (with_reducible first | exact HB.out | apply bA | apply bN | apply bD | refine bS ?_ GE128.out | refine bS ?_ GE129.out) | exact HB.out))) : w.heap.size ≤ gb133))
   have n7_ := A0s.mk ((by rw [hg]; exact Nat.ne_of_lt (blk_lt (g := gb128) (o := .cells #[.int .i64 a0_0, .int .i64 a0_1, .int .i64 a0_2, .int .i64 a0_3, .slice A0_4 l0_4.length c0_4, .slice A0_5 l0_5.length c0_5, .slice A0_6 l0_6.length c0_6] 81 (0, 0)) (by (with_reducible repeat (first | apply kN | apply kD | apply kA)); exact BK128.out)) : gb128 ≠ gb133))
   have n8_ := A0s.mk ((by rw [hg]; exact Nat.ne_of_gt (blk_lt (g := gb128) (o := .cells #[.int .i64 a0_0, .int .i64 a0_1, .int .i64 a0_2, .int .i64 a0_3, .slice A0_4 l0_4.length c0_4, .slice A0_5 l0_5.length c0_5, .slice A0_6 l0_6.length c0_6] 81 (0, 0)) (by (with_reducible repeat (first | apply kN | apply kD | apply kA)); exact BK128.out)) : gb133 ≠ gb128))
   have n9_ := A0s.mk ((by rw [hg]; exact Nat.ne_of_lt (blk_lt (g := gb129) (o := .cells #[.int .i64 0, .int .i64 0, .int .i64 0, .int .i64 0, .slice none 0 0, .slice none 0 0, .slice none 0 0] 81 (0, 0)) (by (with_reducible repeat (first | apply kN | apply kD | apply kA)); exact BK129.out)) : gb129 ≠ gb133))
   have n10_ := A0s.mk ((by rw [hg]; exact Nat.ne_of_gt (blk_lt (g := gb129) (o := .cells #[.int .i64 0, .int .i64 0, .int .i64 0, .int .i64 0, .slice none 0 0, .slice none 0 0, .slice none 0 0] 81 (0, 0)) (by (with_reducible repeat (first | apply kN | apply kD | apply kA)); exact BK129.out)) : gb133 ≠ gb129))
   clear HO132
   clear BK128
   clear BK129
   clear HB
   have HO132 := n0_
   have BK128 := n1_
   have BK129 := n2_
   have HB := n3_
   have BK133 := n4_
   have GW133 := n5_
   have GE133 := n6_
   have NB128_133 := n7_
   have NB133_128 := n8_
   have NB129_133 := n9_
   have NB133_129 := n10_
   clear n0_ n1_ n2_ n3_ n4_ n5_ n6_ n7_ n8_ n9_ n10_
   clear hb hbox hg
   refine hK.out _ _ ⟨(kC BK128.out 0).trans rfl, (kC BK128.out 1).trans rfl, (kC BK128.out 2).trans rfl, (kC BK128.out 3).trans rfl, (kC BK128.out 4).trans rfl, (kC BK128.out 5).trans rfl, (kC BK128.out 6).trans rfl⟩ (fun hHeld => ?_)
   clear hK K
   refine norm_ (a' := ?_) ?_ ?_
   rotate_left
   ·show Act.put _ (some 3) _ = _
    simp only [Act.put, List.setIfInBounds_toArray, List.set_cons_zero, List.set_cons_succ, i64_w, i32_w]
    rfl
   exact norm_ (by simp only [putAll, Act.put, List.setIfInBounds_toArray, List.set_cons_zero, List.set_cons_succ]) (hCont (.slice Ao7 t130.length co7, gb133) _ ⟨hHeld, (by (with_reducible repeat (first | apply Kd.RA | apply Kd.RN | apply Kd.RD)); exact HO132.out), (by (with_reducible repeat (first | apply kN | apply kD | apply kA)); exact BK128.out), (by (with_reducible repeat (first | apply kN | apply kD | apply kA)); exact BK129.out), (by (with_reducible repeat (first | apply kN | apply kD | apply kA)); exact BK133.out), GW133.out, GE133.out, NB128_133.out, NB133_128.out, NB129_133.out, NB133_129.out, (by repeat (first | (with_reducible first | exact HB.out | apply bA | apply bN | apply bD | refine bS ?_ GE128.out | refine bS ?_ GE129.out | refine bS ?_ GE133.out) | exact HB.out))⟩)
  ·skip
   refine box_step ?hg (N := 3) ?hd (cs := #[.int .i64 0, .int .i64 0, .int .i64 0, .int .i64 0, .slice none 0 0, .slice none 0 0, .slice none 0 0]) (t := 81) ?hr ?_; (case hd => rfl); (case hg => rfl); (case hr => first | (go_simp; done) | (go_simp; rfl))
   intro gb133 hg w6 hbox hb
   have n0_ := A0s.mk (blk_below (g := gb128) (o := .cells #[.int .i64 a0_0, .int .i64 a0_1, .int .i64 a0_2, .int .i64 a0_3, .slice A0_4 l0_4.length c0_4, .slice A0_5 l0_5.length c0_5, .slice A0_6 l0_6.length c0_6] 81 (0, 0)) (by (with_reducible repeat (first | apply kN | apply kD | apply kA)); exact BK128.out) hb)
   have n1_ := A0s.mk (blk_below (g := gb129) (o := .cells #[.int .i64 0, .int .i64 0, .int .i64 0, .int .i64 0, .slice none 0 0, .slice none 0 0, .slice none 0 0] 81 (0, 0)) (by (with_reducible repeat (first | apply kN | apply kD | apply kA)); exact BK129.out) hb)
   have n2_ := A0s.mk (below_step (by repeat (first | (with_reducible first | exact HB.out | apply bA | apply bN | apply bD | refine bS ?_ GE128.out | refine bS ?_ GE129.out) | exact HB.out)) hb)
   have n3_ := A0s.mk (hbox)
   have n4_ := A0s.mk ((by rw [hg]; exact (below_size (by repeat (first | (with_reducible first | exact HB.out | apply bA | apply bN | apply bD | refine bS ?_ GE128.out | refine bS ?_ GE129.out) | exact HB.out))) : w.heap.size ≤ gb133))
   have n5_ := A0s.mk ((by rw [hg]; exact (below_size (by repeat (first | (with_reducible first | exact HB.out | apply bA | apply bN | apply bD | refine bS ?_ GE128.out | refine bS ?_ GE129.out) | exact HB.out))) : w.heap.size ≤ gb133))
   have n6_ := A0s.mk ((by rw [hg]; exact Nat.ne_of_lt (blk_lt (g := gb128) (o := .cells #[.int .i64 a0_0, .int .i64 a0_1, .int .i64 a0_2, .int .i64 a0_3, .slice A0_4 l0_4.length c0_4, .slice A0_5 l0_5.length c0_5, .slice A0_6 l0_6.length c0_6] 81 (0, 0)) (by (with_reducible repeat (first | apply kN | apply kD | apply kA)); exact BK128.out)) : gb128 ≠ gb133))
   have n7_ := A0s.mk ((by rw [hg]; exact Nat.ne_of_gt (blk_lt (g := gb128) (o := .cells #[.int .i64 a0_0, .int .i64 a0_1, .int .i64 a0_2, .int .i64 a0_3, .slice A0_4 l0_4.length c0_4, .slice A0_5 l0_5.length c0_5, .slice A0_6 l0_6.length c0_6] 81 (0, 0)) (by (with_reducible repeat (first | apply kN | apply kD | apply kA)); exact BK128.out)) : gb133 ≠ gb128))
   have n8_ := A0s.mk ((by rw [hg]; exact Nat.ne_of_lt (blk_lt (g := gb129) (o := .cells #[.int .i64 0, .int .i64 0, .int .i64 0, .int .i64 0, .slice none 0 0, .slice none 0 0, .slice none 0 0] 81 (0, 0)) (by (with_reducible repeat (first | apply kN | apply kD | apply kA)); exact BK129.out)) : gb129 ≠ gb133))
   have n9_ := A0s.mk ((by rw [hg]; exact Nat.ne_of_gt (blk_lt (g := gb129) (o := .cells #[.int .i64 0, .int .i64 0, .int .i64 0, .int .i64 0, .slice none 0 0, .slice none 0 0, .slice none 0 0] 81 (0, 0)) (by (with_reducible repeat (first | apply kN | apply kD | apply kA)); exact BK129.out)) : gb133 ≠ gb129))
   clear BK128
   clear BK129
   clear HB
   have BK128 := n0_
   have BK129 := n1_
   have HB := n2_
   have BK133 := n3_
   have GW133 := n4_
   have GE133 := n5_
   have NB128_133 := n6_
   have NB133_128 := n7_
   have NB129_133 := n8_
   have NB133_129 := n9_
   clear n0_ n1_ n2_ n3_ n4_ n5_ n6_ n7_ n8_ n9_
   clear hb hbox hg
   refine hK.out _ _ ⟨(kC BK128.out 0).trans rfl, (kC BK128.out 1).trans rfl, (kC BK128.out 2).trans rfl, (kC BK128.out 3).trans rfl, (kC BK128.out 4).trans rfl, (kC BK128.out 5).trans rfl, (kC BK128.out 6).trans rfl⟩ (fun hHeld => ?_)
   clear hK K
   refine norm_ (a' := ?_) ?_ ?_
   rotate_left
   ·show Act.put _ (some 3) _ = _
    simp only [Act.put, List.setIfInBounds_toArray, List.set_cons_zero, List.set_cons_succ, i64_w, i32_w]
    rfl
   refine one_ (i := 25) (N := some 33) #[true, true, true, true, true, true, true, true, true, true, true, true, true, true, true, true, true, true, true, true, true, true, true, true, true, true, false, true, false] rfl rfl (one_of HT_.out (by kernel_rfl)) (by decide) (fun K hK => ?_)
   refine goes_ Try.func74 (by kernel_rfl) rfl #[.slice A0_4 l0_4.length c0_4] (by rfl) rfl rfl (by (try simp only [List.map_toArray, List.map_cons, List.map_nil]); first | done | rfl | (simp only [List.length_drop, List.length_take]; rfl)) ?_
   with_reducible refine (stopgateref03_Fix.calls k _ _ l0_4 t130 _ ?side1 ?side2 A2.out).mono ?_
   (case side1 => repeat (first | exact (Kd.C_below HR0_4.out HB.out) | (with_reducible refine Kd.C_alloc ?_ _) | (with_reducible refine Kd.C_drewN ?_ _) | (with_reducible refine Kd.C_drew ?_)))
   (case side2 => exact HC0_4.out)
   rintro e w7 ⟨v131, rfl, ho0, hb⟩
   refine ⟨_, rfl, ?_⟩
   have n0_ := A0s.mk (Kd.R_lower ho0 (below_size (by repeat (first | (with_reducible first | exact HB.out | apply bA | apply bN | apply bD | refine bS ?_ GE128.out | refine bS ?_ GE129.out | refine bS ?_ GE133.out) | exact HB.out))))
   have n1_ := A0s.mk (blk_below (g := gb128) (o := .cells #[.int .i64 a0_0, .int .i64 a0_1, .int .i64 a0_2, .int .i64 a0_3, .slice A0_4 l0_4.length c0_4, .slice A0_5 l0_5.length c0_5, .slice A0_6 l0_6.length c0_6] 81 (0, 0)) (by (with_reducible repeat (first | apply kN | apply kD | apply kA)); exact BK128.out) hb)
   have n2_ := A0s.mk (blk_below (g := gb129) (o := .cells #[.int .i64 0, .int .i64 0, .int .i64 0, .int .i64 0, .slice none 0 0, .slice none 0 0, .slice none 0 0] 81 (0, 0)) (by (with_reducible repeat (first | apply kN | apply kD | apply kA)); exact BK129.out) hb)
   have n3_ := A0s.mk (blk_below (g := gb133) (o := .cells #[.int .i64 0, .int .i64 0, .int .i64 0, .int .i64 0, .slice none 0 0, .slice none 0 0, .slice none 0 0] 81 (0, 0)) (by (with_reducible repeat (first | apply kN | apply kD | apply kA)); exact BK133.out) hb)
   have n4_ := A0s.mk (below_step (by repeat (first | (with_reducible first | exact HB.out | apply bA | apply bN | apply bD | refine bS ?_ GE128.out | refine bS ?_ GE129.out | refine bS ?_ GE133.out) | exact HB.out)) hb)
   clear BK128
   clear BK129
   clear BK133
   clear HB
   have HO132 := n0_
   have BK128 := n1_
   have BK129 := n2_
   have BK133 := n3_
   have HB := n4_
   clear n0_ n1_ n2_ n3_ n4_
   (try clear hb)
   (try clear hb2)
   (try clear hk)
   (try clear hi)
   (try clear ho0)
   obtain ⟨Ao8, co8, eo8⟩ := Kd.R_slice HO132.out
   (first | subst eo8 | (injection eo8 with f1_ f2_ f3_; have f4_ := f1_.symm; have f5_ := f3_.symm; clear f1_ f2_ f3_; subst f4_; subst f5_))
   refine hK.out _ _ ⟨(kC BK128.out 0).trans rfl, (kC BK128.out 1).trans rfl, (kC BK128.out 2).trans rfl, (kC BK128.out 3).trans rfl, (kC BK128.out 4).trans rfl, (kC BK128.out 5).trans rfl, (kC BK128.out 6).trans rfl⟩ (fun hHeld => ?_)
   clear hK K
   refine norm_ (a' := ?_) ?_ ?_
   rotate_left
   ·show Act.put _ (some 33) _ = _
    simp only [Act.put, List.setIfInBounds_toArray, List.set_cons_zero, List.set_cons_succ, i64_w, i32_w]
    rfl
   refine pure_ (i := 26) (N := some 34) (v := ?_) (a' := ?_) #[true, true, true, true, true, true, true, true, true, true, true, true, true, true, true, true, true, true, true, true, true, true, true, true, true, true, true, true, false] rfl rfl (any_of HT_.out (by kernel_rfl)) (fun _ _ _ h => h) (Or.inl ⟨by rfl, ?_⟩) ?_ ?_
   rotate_left
   ·intro w'
    go_simp
    with_reducible rfl
   rotate_left
   ·simp only [Act.put, List.setIfInBounds_toArray, List.set_cons_zero, List.set_cons_succ, i64_w, i32_w]
    rfl
   exact norm_ (by simp only [putAll, Act.put, List.setIfInBounds_toArray, List.set_cons_zero, List.set_cons_succ]) (hCont (.slice Ao8 t130.length co8, gb133) _ ⟨hHeld, (by (with_reducible repeat (first | apply Kd.RA | apply Kd.RN | apply Kd.RD)); exact HO132.out), (by (with_reducible repeat (first | apply kN | apply kD | apply kA)); exact BK128.out), (by (with_reducible repeat (first | apply kN | apply kD | apply kA)); exact BK129.out), (by (with_reducible repeat (first | apply kN | apply kD | apply kA)); exact BK133.out), GW133.out, GE133.out, NB128_133.out, NB133_128.out, NB129_133.out, NB133_129.out, (by repeat (first | (with_reducible first | exact HB.out | apply bA | apply bN | apply bD | refine bS ?_ GE128.out | refine bS ?_ GE129.out | refine bS ?_ GE133.out) | exact HB.out))⟩)
 rintro ⟨v131, gb133⟩ w9 ⟨hS_, h0_, h1_, h2_, h3_, h4_, h5_, h6_, h7_, h8_, h9_, h10_⟩
 have n0_ : A0s (Kd.R k176 176 w9 w.heap.size (fun _ => True) v131 t130) := ⟨h0_⟩
 have n1_ : A0s (w9.heap[gb128]? = some (.cells #[.int .i64 a0_0, .int .i64 a0_1, .int .i64 a0_2, .int .i64 a0_3, .slice A0_4 l0_4.length c0_4, .slice A0_5 l0_5.length c0_5, .slice A0_6 l0_6.length c0_6] 81 (0, 0))) := ⟨h1_⟩
 have n2_ : A0s (w9.heap[gb129]? = some (.cells #[.int .i64 0, .int .i64 0, .int .i64 0, .int .i64 0, .slice none 0 0, .slice none 0 0, .slice none 0 0] 81 (0, 0))) := ⟨h2_⟩
 have n3_ : A0s (w9.heap[gb133]? = some (.cells #[.int .i64 0, .int .i64 0, .int .i64 0, .int .i64 0, .slice none 0 0, .slice none 0 0, .slice none 0 0] 81 (0, 0))) := ⟨h3_⟩
 have n4_ : A0s (w.heap.size ≤ gb133) := ⟨h4_⟩
 have n5_ : A0s (w.heap.size ≤ gb133) := ⟨h5_⟩
 have n6_ : A0s (gb128 ≠ gb133) := ⟨h6_⟩
 have n7_ : A0s (gb133 ≠ gb128) := ⟨h7_⟩
 have n8_ : A0s (gb129 ≠ gb133) := ⟨h8_⟩
 have n9_ : A0s (gb133 ≠ gb129) := ⟨h9_⟩
 have n10_ : A0s (Below w.heap.size w w9) := ⟨h10_⟩
 clear BK128
 clear BK129
 clear HB
 clear h0_ h1_ h2_ h3_ h4_ h5_ h6_ h7_ h8_ h9_ h10_
 have HO132 := n0_
 have BK128 := n1_
 have BK129 := n2_
 have BK133 := n3_
 have GW133 := n4_
 have GE133 := n5_
 have NB128_133 := n6_
 have NB133_128 := n7_
 have NB129_133 := n8_
 have NB133_129 := n9_
 have HB := n10_
 clear n0_ n1_ n2_ n3_ n4_ n5_ n6_ n7_ n8_ n9_ n10_
 have hHeld : w9.cell? ⟨gb128, 0, none⟩ = some (.int .i64 a0_0) ∧ w9.cell? ⟨gb128, 1, none⟩ = some (.int .i64 a0_1) ∧ w9.cell? ⟨gb128, 2, none⟩ = some (.int .i64 a0_2) ∧ w9.cell? ⟨gb128, 3, none⟩ = some (.int .i64 a0_3) ∧ w9.cell? ⟨gb128, 4, none⟩ = some (.slice A0_4 l0_4.length c0_4) ∧ w9.cell? ⟨gb128, 5, none⟩ = some (.slice A0_5 l0_5.length c0_5) ∧ w9.cell? ⟨gb128, 6, none⟩ = some (.slice A0_6 l0_6.length c0_6) := hS_
 obtain ⟨Ao10, co10, eo10⟩ := Kd.R_slice HO132.out
 (first | subst eo10 | (injection eo10 with f1_ f2_ f3_; have f4_ := f1_.symm; have f5_ := f3_.symm; clear f1_ f2_ f3_; subst f4_; subst f5_))
 refine norm_ (a' := ?_) ?_ ?_
 rotate_left
 ·simp only [putAll, Act.put, List.setIfInBounds_toArray, List.set_cons_zero, List.set_cons_succ]
  rfl
 refine one_ (i := 28) (N := none) #[true, true, true, true, true, true, true, true, true, true, true, true, true, true, true, true, true, true, true, true, true, true, true, true, true, true, true, true, true] rfl rfl (one_of HT_.out (by kernel_rfl)) (by decide) (fun K hK => ?_)
 have hs11 : w9.cell? ⟨gb133, 0, none⟩ = some (.int .i64 0) := (kC BK133.out 0).trans rfl
 have hfs11 := blk_frozen BK133.out 0
 have hns11_0 := NB128_133.out
 have hns11_1 := NB129_133.out
 have hms11_0 := NB133_128.out
 have hms11_1 := NB133_129.out
 have hs12 : w9.cell? ⟨gb133, 1, none⟩ = some (.int .i64 0) := (kC BK133.out 1).trans rfl
 have hfs12 := blk_frozen BK133.out 1
 have hns12_0 := NB128_133.out
 have hns12_1 := NB129_133.out
 have hms12_0 := NB133_128.out
 have hms12_1 := NB133_129.out
 have hs13 : w9.cell? ⟨gb133, 2, none⟩ = some (.int .i64 0) := (kC BK133.out 2).trans rfl
 have hfs13 := blk_frozen BK133.out 2
 have hns13_0 := NB128_133.out
 have hns13_1 := NB129_133.out
 have hms13_0 := NB133_128.out
 have hms13_1 := NB133_129.out
 have hs14 : w9.cell? ⟨gb133, 3, none⟩ = some (.int .i64 0) := (kC BK133.out 3).trans rfl
 have hfs14 := blk_frozen BK133.out 3
 have hns14_0 := NB128_133.out
 have hns14_1 := NB129_133.out
 have hms14_0 := NB133_128.out
 have hms14_1 := NB133_129.out
 have hs15 : w9.cell? ⟨gb133, 4, none⟩ = some (.slice none 0 0) := (kC BK133.out 4).trans rfl
 have hfs15 := blk_frozen BK133.out 4
 have hns15_0 := NB128_133.out
 have hns15_1 := NB129_133.out
 have hms15_0 := NB133_128.out
 have hms15_1 := NB133_129.out
 have hs16 : w9.cell? ⟨gb133, 5, none⟩ = some (.slice none 0 0) := (kC BK133.out 5).trans rfl
 have hfs16 := blk_frozen BK133.out 5
 have hns16_0 := NB128_133.out
 have hns16_1 := NB129_133.out
 have hms16_0 := NB133_128.out
 have hms16_1 := NB133_129.out
 have hs17 : w9.cell? ⟨gb133, 6, none⟩ = some (.slice none 0 0) := (kC BK133.out 6).trans rfl
 have hfs17 := blk_frozen BK133.out 6
 have hns17_0 := NB128_133.out
 have hns17_1 := NB129_133.out
 have hms17_0 := NB133_128.out
 have hms17_1 := NB133_129.out
 refine skip_ (w1 := ?_) (by rfl) rfl ?_ ?_
 rotate_left
 ·go_simp
  rfl
 refine hK.out _ _ ⟨((cell_far (p := ⟨gb133, _, none⟩) NB128_133.out _).trans (((cell_far (p := ⟨gb133, _, none⟩) NB128_133.out _).trans (((cell_far (p := ⟨gb133, _, none⟩) NB128_133.out _).trans (((cell_far (p := ⟨gb133, _, none⟩) NB128_133.out _).trans (((cell_far (p := ⟨gb133, _, none⟩) NB128_133.out _).trans (((cell_far (p := ⟨gb133, _, none⟩) NB128_133.out _).trans (((cell_far (p := ⟨gb133, _, none⟩) NB128_133.out _).trans (hHeld.1)))))))))))))), ((cell_far (p := ⟨gb133, _, none⟩) NB128_133.out _).trans (((cell_far (p := ⟨gb133, _, none⟩) NB128_133.out _).trans (((cell_far (p := ⟨gb133, _, none⟩) NB128_133.out _).trans (((cell_far (p := ⟨gb133, _, none⟩) NB128_133.out _).trans (((cell_far (p := ⟨gb133, _, none⟩) NB128_133.out _).trans (((cell_far (p := ⟨gb133, _, none⟩) NB128_133.out _).trans (((cell_far (p := ⟨gb133, _, none⟩) NB128_133.out _).trans (hHeld.2.1)))))))))))))), ((cell_far (p := ⟨gb133, _, none⟩) NB128_133.out _).trans (((cell_far (p := ⟨gb133, _, none⟩) NB128_133.out _).trans (((cell_far (p := ⟨gb133, _, none⟩) NB128_133.out _).trans (((cell_far (p := ⟨gb133, _, none⟩) NB128_133.out _).trans (((cell_far (p := ⟨gb133, _, none⟩) NB128_133.out _).trans (((cell_far (p := ⟨gb133, _, none⟩) NB128_133.out _).trans (((cell_far (p := ⟨gb133, _, none⟩) NB128_133.out _).trans (hHeld.2.2.1)))))))))))))), ((cell_far (p := ⟨gb133, _, none⟩) NB128_133.out _).trans (((cell_far (p := ⟨gb133, _, none⟩) NB128_133.out _).trans (((cell_far (p := ⟨gb133, _, none⟩) NB128_133.out _).trans (((cell_far (p := ⟨gb133, _, none⟩) NB128_133.out _).trans (((cell_far (p := ⟨gb133, _, none⟩) NB128_133.out _).trans (((cell_far (p := ⟨gb133, _, none⟩) NB128_133.out _).trans (((cell_far (p := ⟨gb133, _, none⟩) NB128_133.out _).trans (hHeld.2.2.2.1)))))))))))))), ((cell_far (p := ⟨gb133, _, none⟩) NB128_133.out _).trans (((cell_far (p := ⟨gb133, _, none⟩) NB128_133.out _).trans (((cell_far (p := ⟨gb133, _, none⟩) NB128_133.out _).trans (((cell_far (p := ⟨gb133, _, none⟩) NB128_133.out _).trans (((cell_far (p := ⟨gb133, _, none⟩) NB128_133.out _).trans (((cell_far (p := ⟨gb133, _, none⟩) NB128_133.out _).trans (((cell_far (p := ⟨gb133, _, none⟩) NB128_133.out _).trans (hHeld.2.2.2.2.1)))))))))))))), ((cell_far (p := ⟨gb133, _, none⟩) NB128_133.out _).trans (((cell_far (p := ⟨gb133, _, none⟩) NB128_133.out _).trans (((cell_far (p := ⟨gb133, _, none⟩) NB128_133.out _).trans (((cell_far (p := ⟨gb133, _, none⟩) NB128_133.out _).trans (((cell_far (p := ⟨gb133, _, none⟩) NB128_133.out _).trans (((cell_far (p := ⟨gb133, _, none⟩) NB128_133.out _).trans (((cell_far (p := ⟨gb133, _, none⟩) NB128_133.out _).trans (hHeld.2.2.2.2.2.1)))))))))))))), ((cell_far (p := ⟨gb133, _, none⟩) NB128_133.out _).trans (((cell_far (p := ⟨gb133, _, none⟩) NB128_133.out _).trans (((cell_far (p := ⟨gb133, _, none⟩) NB128_133.out _).trans (((cell_far (p := ⟨gb133, _, none⟩) NB128_133.out _).trans (((cell_far (p := ⟨gb133, _, none⟩) NB128_133.out _).trans (((cell_far (p := ⟨gb133, _, none⟩) NB128_133.out _).trans (((cell_far (p := ⟨gb133, _, none⟩) NB128_133.out _).trans (hHeld.2.2.2.2.2.2))))))))))))))⟩ (fun hHeld => ?_)
 clear hK K
 refine done_ (done_of HT_.out (by kernel_rfl)) ?_
 try go_wp2
 go_loopg [4] k (fun kq v4 w' => ∃ (x4_1 : Int) (x134005_1 : List Int) (u134005 : Value), v4 = .int .i64 x4_1 ∧ A0s (stopgateref05_Fix.l0 kq x4_1 a0_0 a0_1 a0_2 a0_3 l0_4 l0_5 l0_6 (wrap64 (1 + (wrap64 (Int.tmod (IntKind.u64.wrap (a0_0)) 3)))) (wrap64 (Int.tmod (IntKind.u64.wrap (a0_1)) 4)) (wrap64 (1 + (wrap64 (Int.tmod (IntKind.u64.wrap (a0_2)) 6)))) (wrap64 (1 + (wrap64 (Int.tmod (IntKind.u64.wrap (a0_3)) 8)))) t130 x134005_1 = some (r1, r2, r3, r4, r5, r6, r7)) ∧ A0s (kq ≤ k) ∧ A0s (Kd.R k176 176 w' w.heap.size (fun _ => True) (.slice Ao10 t130.length co10) t130) ∧ A0s (Kd.R (Kd.int .i64) 3 w' w.heap.size (fun _ => True) u134005 x134005_1) ∧ A0s (w'.heap[gb128]? = some (.cells #[.int .i64 a0_0, .int .i64 a0_1, .int .i64 a0_2, .int .i64 a0_3, (.slice A0_4 l0_4.length c0_4), (.slice A0_5 l0_5.length c0_5), (.slice A0_6 l0_6.length c0_6)] 81 (0, 0))) ∧ A0s (w'.heap[gb129]? = some (.cells #[.int .i64 0, .int .i64 0, .int .i64 0, .int .i64 0, (.slice none 0 0), (.slice none 0 0), (.slice none 0 0)] 81 (0, 0))) ∧ A0s (w'.heap[gb133]? = some (.cells #[.int .i64 (wrap64 (1 + (wrap64 (Int.tmod (IntKind.u64.wrap (a0_0)) 3)))), .int .i64 (wrap64 (Int.tmod (IntKind.u64.wrap (a0_1)) 4)), .int .i64 (wrap64 (1 + (wrap64 (Int.tmod (IntKind.u64.wrap (a0_2)) 6)))), .int .i64 (wrap64 (1 + (wrap64 (Int.tmod (IntKind.u64.wrap (a0_3)) 8)))), (.slice Ao10 t130.length co10), u134005, (.slice none 0 0)] 81 (0, 0))) ∧ A0s (Below w.heap.size w w'))
 case atStart => exact ⟨(0), (([] : List Int)), (.slice none 0 0), (by first | rfl | (simp; done) | (simp [*]; done)), H', ⟨Nat.le_refl _⟩, ⟨by (with_reducible repeat (first | apply Kd.RA | apply Kd.RN | apply Kd.RD)); exact Kd.R_mono (Kd.R_far (p := ⟨gb133, 6, none⟩) (Kd.R_far (p := ⟨gb133, 5, none⟩) (Kd.R_far (p := ⟨gb133, 4, none⟩) (Kd.R_far (p := ⟨gb133, 3, none⟩) (Kd.R_far (p := ⟨gb133, 2, none⟩) (Kd.R_far (p := ⟨gb133, 1, none⟩) (Kd.R_far (p := ⟨gb133, 0, none⟩) (Kd.R_types HO132.out BK133.out (by decide)) (fun _ hk => hk.2) (.int .i64 (wrap64 (1 + (wrap64 (Int.tmod (IntKind.u64.wrap (a0_0)) 3)))))) (fun _ hk => hk.2) (.int .i64 (wrap64 (Int.tmod (IntKind.u64.wrap (a0_1)) 4)))) (fun _ hk => hk.2) (.int .i64 (wrap64 (1 + (wrap64 (Int.tmod (IntKind.u64.wrap (a0_2)) 6)))))) (fun _ hk => hk.2) (.int .i64 (wrap64 (1 + (wrap64 (Int.tmod (IntKind.u64.wrap (a0_3)) 8)))))) (fun _ hk => hk.2) (.slice Ao10 t130.length co10)) (fun _ hk => hk.2) (.slice none 0 0)) (fun _ hk => hk.2) (.slice none 0 0)) (fun _ hk => trivial)⟩, ⟨by first | exact Kd.R_nil _ _ _ _ _ | exact Kd.N_nil _ _ _ _ _ | exact Kd.V_nil _ _ _ _ _ | exact Kd.Q_nil _ _ _ _ _ | exact Kd.S_nil _ _ _ _ _⟩, ⟨by (with_reducible repeat (first | apply kN | apply kD | apply kA)); refine blk_far ?_ NB128_133.out _; (with_reducible repeat (first | apply kN | apply kD | apply kA)); refine blk_far ?_ NB128_133.out _; (with_reducible repeat (first | apply kN | apply kD | apply kA)); refine blk_far ?_ NB128_133.out _; (with_reducible repeat (first | apply kN | apply kD | apply kA)); refine blk_far ?_ NB128_133.out _; (with_reducible repeat (first | apply kN | apply kD | apply kA)); refine blk_far ?_ NB128_133.out _; (with_reducible repeat (first | apply kN | apply kD | apply kA)); refine blk_far ?_ NB128_133.out _; (with_reducible repeat (first | apply kN | apply kD | apply kA)); refine blk_far ?_ NB128_133.out _; (with_reducible repeat (first | apply kN | apply kD | apply kA)); exact BK128.out⟩, ⟨by (with_reducible repeat (first | apply kN | apply kD | apply kA)); refine blk_far ?_ NB129_133.out _; (with_reducible repeat (first | apply kN | apply kD | apply kA)); refine blk_far ?_ NB129_133.out _; (with_reducible repeat (first | apply kN | apply kD | apply kA)); refine blk_far ?_ NB129_133.out _; (with_reducible repeat (first | apply kN | apply kD | apply kA)); refine blk_far ?_ NB129_133.out _; (with_reducible repeat (first | apply kN | apply kD | apply kA)); refine blk_far ?_ NB129_133.out _; (with_reducible repeat (first | apply kN | apply kD | apply kA)); refine blk_far ?_ NB129_133.out _; (with_reducible repeat (first | apply kN | apply kD | apply kA)); refine blk_far ?_ NB129_133.out _; (with_reducible repeat (first | apply kN | apply kD | apply kA)); exact BK129.out⟩, ⟨by (with_reducible repeat (first | apply kN | apply kD | apply kA)); refine blk_put (cs := #[.int .i64 (wrap64 (1 + (wrap64 (Int.tmod (IntKind.u64.wrap (a0_0)) 3)))), .int .i64 (wrap64 (Int.tmod (IntKind.u64.wrap (a0_1)) 4)), .int .i64 (wrap64 (1 + (wrap64 (Int.tmod (IntKind.u64.wrap (a0_2)) 6)))), .int .i64 (wrap64 (1 + (wrap64 (Int.tmod (IntKind.u64.wrap (a0_3)) 8)))), .slice Ao10 t130.length co10, .slice none 0 0, .slice none 0 0]) ?_ 6 _ rfl; (with_reducible repeat (first | apply kN | apply kD | apply kA)); refine blk_put (cs := #[.int .i64 (wrap64 (1 + (wrap64 (Int.tmod (IntKind.u64.wrap (a0_0)) 3)))), .int .i64 (wrap64 (Int.tmod (IntKind.u64.wrap (a0_1)) 4)), .int .i64 (wrap64 (1 + (wrap64 (Int.tmod (IntKind.u64.wrap (a0_2)) 6)))), .int .i64 (wrap64 (1 + (wrap64 (Int.tmod (IntKind.u64.wrap (a0_3)) 8)))), .slice Ao10 t130.length co10, .slice none 0 0, .slice none 0 0]) ?_ 5 _ rfl; (with_reducible repeat (first | apply kN | apply kD | apply kA)); refine blk_put (cs := #[.int .i64 (wrap64 (1 + (wrap64 (Int.tmod (IntKind.u64.wrap (a0_0)) 3)))), .int .i64 (wrap64 (Int.tmod (IntKind.u64.wrap (a0_1)) 4)), .int .i64 (wrap64 (1 + (wrap64 (Int.tmod (IntKind.u64.wrap (a0_2)) 6)))), .int .i64 (wrap64 (1 + (wrap64 (Int.tmod (IntKind.u64.wrap (a0_3)) 8)))), .slice none 0 0, .slice none 0 0, .slice none 0 0]) ?_ 4 _ rfl; (with_reducible repeat (first | apply kN | apply kD | apply kA)); refine blk_put (cs := #[.int .i64 (wrap64 (1 + (wrap64 (Int.tmod (IntKind.u64.wrap (a0_0)) 3)))), .int .i64 (wrap64 (Int.tmod (IntKind.u64.wrap (a0_1)) 4)), .int .i64 (wrap64 (1 + (wrap64 (Int.tmod (IntKind.u64.wrap (a0_2)) 6)))), .int .i64 0, .slice none 0 0, .slice none 0 0, .slice none 0 0]) ?_ 3 _ rfl; (with_reducible repeat (first | apply kN | apply kD | apply kA)); refine blk_put (cs := #[.int .i64 (wrap64 (1 + (wrap64 (Int.tmod (IntKind.u64.wrap (a0_0)) 3)))), .int .i64 (wrap64 (Int.tmod (IntKind.u64.wrap (a0_1)) 4)), .int .i64 0, .int .i64 0, .slice none 0 0, .slice none 0 0, .slice none 0 0]) ?_ 2 _ rfl; (with_reducible repeat (first | apply kN | apply kD | apply kA)); refine blk_put (cs := #[.int .i64 (wrap64 (1 + (wrap64 (Int.tmod (IntKind.u64.wrap (a0_0)) 3)))), .int .i64 0, .int .i64 0, .int .i64 0, .slice none 0 0, .slice none 0 0, .slice none 0 0]) ?_ 1 _ rfl; (with_reducible repeat (first | apply kN | apply kD | apply kA)); refine blk_put (cs := #[.int .i64 0, .int .i64 0, .int .i64 0, .int .i64 0, .slice none 0 0, .slice none 0 0, .slice none 0 0]) ?_ 0 _ rfl; (with_reducible repeat (first | apply kN | apply kD | apply kA)); exact BK133.out⟩, ⟨by repeat (first | (with_reducible first | exact HB.out | apply bA | apply bN | apply bD | refine bS ?_ GE128.out | refine bS ?_ GE129.out | refine bS ?_ GE133.out) | exact HB.out)⟩⟩
 case round =>
  clear H'
  try clear p2
  try clear c4
  try clear p6
  try clear c7
  obtain ⟨x4_1, x134005_1, u134005, rfl, HA, HK1, HO_134004, HO_134005, BK128, BK129, BK133, HB⟩ := hrel
  cases gk with
  | zero => exact absurd HA.out (by simp [stopgateref05_Fix.l0])
  | succ k1 =>
   have H := HA.out
   clear HA
   simp only [stopgateref05_Fix.l0] at H
   have HC18 := A0s.mk H
   clear H
   go_upto_region 3 with (fail)
   go_cut [43] (fun v43 wc => ∃ (kq : Nat) (x43_17 : Bool), v43 = .bool x43_17 ∧ A0s (stopgateref05_Fix.j1 kq x4_1 x43_17 a0_0 a0_1 a0_2 a0_3 l0_4 l0_5 l0_6 (wrap64 (1 + (wrap64 (Int.tmod (IntKind.u64.wrap (a0_0)) 3)))) (wrap64 (Int.tmod (IntKind.u64.wrap (a0_1)) 4)) (wrap64 (1 + (wrap64 (Int.tmod (IntKind.u64.wrap (a0_2)) 6)))) (wrap64 (1 + (wrap64 (Int.tmod (IntKind.u64.wrap (a0_3)) 8)))) t130 x134005_1 = some (r1, r2, r3, r4, r5, r6, r7)) ∧ A0s (kq ≤ k1) ∧ A0s (Kd.R k176 176 wc w.heap.size (fun _ => True) (.slice Ao10 t130.length co10) t130) ∧ A0s (Kd.R (Kd.int .i64) 3 wc w.heap.size (fun _ => True) u134005 x134005_1) ∧ A0s (wc.heap[gb128]? = some (.cells #[.int .i64 a0_0, .int .i64 a0_1, .int .i64 a0_2, .int .i64 a0_3, (.slice A0_4 l0_4.length c0_4), (.slice A0_5 l0_5.length c0_5), (.slice A0_6 l0_6.length c0_6)] 81 (0, 0))) ∧ A0s (wc.heap[gb129]? = some (.cells #[.int .i64 0, .int .i64 0, .int .i64 0, .int .i64 0, (.slice none 0 0), (.slice none 0 0), (.slice none 0 0)] 81 (0, 0))) ∧ A0s (wc.heap[gb133]? = some (.cells #[.int .i64 (wrap64 (1 + (wrap64 (Int.tmod (IntKind.u64.wrap (a0_0)) 3)))), .int .i64 (wrap64 (Int.tmod (IntKind.u64.wrap (a0_1)) 4)), .int .i64 (wrap64 (1 + (wrap64 (Int.tmod (IntKind.u64.wrap (a0_2)) 6)))), .int .i64 (wrap64 (1 + (wrap64 (Int.tmod (IntKind.u64.wrap (a0_3)) 8)))), (.slice Ao10 t130.length co10), u134005, (.slice none 0 0)] 81 (0, 0))) ∧ A0s (Below w.heap.size w wc))
   case first =>
    have H := HC18.out
    clear HC18
    by_cases c19 : x4_1 < (l0_5.length : Int)
    ·rw [if_pos c19] at H
     have c19b0 : decide (x4_1 < (l0_5.length : Int)) = true := decide_eq_true c19
     clear c19
     (first | rw [c19b0] | (simp only [i64_w, i32_w]; rw [c19b0]) | skip)
     have H' := A0s.mk H
     clear H
     have hnb20 := NB128_129.out
     have hnc20 := NB129_128.out
     have hnb21 := NB128_133.out
     have hnc21 := NB133_128.out
     obtain ⟨hcz22_0, hcz22_1, hcz22_2, hcz22_3, hcz22_4, hcz22_5, hcz22_6, hfz22_0, hfz22_1, hfz22_2, hfz22_3, hfz22_4, hfz22_5, hfz22_6⟩ := blk_all7 BK128.out
     go_wp2
     go_meet
     case rel => exact ⟨_, (decide (x4_1 < 5)), (by first | rfl | (simp; done) | (simp [*]; done)), H', ⟨by have := HK1.out; first | omega | exact Nat.le_refl _⟩, ⟨by (with_reducible repeat (first | apply Kd.RA | apply Kd.RN | apply Kd.RD)); exact HO_134004.out⟩, ⟨by (with_reducible repeat (first | apply Kd.RA | apply Kd.RN | apply Kd.RD)); exact HO_134005.out⟩, ⟨by (with_reducible repeat (first | apply kN | apply kD | apply kA)); exact BK128.out⟩, ⟨by (with_reducible repeat (first | apply kN | apply kD | apply kA)); exact BK129.out⟩, ⟨by (with_reducible repeat (first | apply kN | apply kD | apply kA)); exact BK133.out⟩, ⟨by repeat (first | (with_reducible first | exact HB.out | apply bA | apply bN | apply bD | refine bS ?_ GE128.out | refine bS ?_ GE129.out | refine bS ?_ GE133.out) | exact HB.out)⟩⟩
    ·rw [if_neg c19] at H
     have c19b0 : decide (x4_1 < (l0_5.length : Int)) = false := decide_eq_false c19
     clear c19
     (first | rw [c19b0] | (simp only [i64_w, i32_w]; rw [c19b0]) | skip)
     have H' := A0s.mk H
     clear H
     have hnb23 := NB128_129.out
     have hnc23 := NB129_128.out
     have hnb24 := NB128_133.out
     have hnc24 := NB133_128.out
     obtain ⟨hcz25_0, hcz25_1, hcz25_2, hcz25_3, hcz25_4, hcz25_5, hcz25_6, hfz25_0, hfz25_1, hfz25_2, hfz25_3, hfz25_4, hfz25_5, hfz25_6⟩ := blk_all7 BK128.out
     go_wp2
     go_meet
     case rel => exact ⟨_, (false), (by first | rfl | (simp; done) | (simp [*]; done)), H', ⟨by have := HK1.out; first | omega | exact Nat.le_refl _⟩, ⟨by (with_reducible repeat (first | apply Kd.RA | apply Kd.RN | apply Kd.RD)); exact HO_134004.out⟩, ⟨by (with_reducible repeat (first | apply Kd.RA | apply Kd.RN | apply Kd.RD)); exact HO_134005.out⟩, ⟨by (with_reducible repeat (first | apply kN | apply kD | apply kA)); exact BK128.out⟩, ⟨by (with_reducible repeat (first | apply kN | apply kD | apply kA)); exact BK129.out⟩, ⟨by (with_reducible repeat (first | apply kN | apply kD | apply kA)); exact BK133.out⟩, ⟨by repeat (first | (with_reducible first | exact HB.out | apply bA | apply bN | apply bD | refine bS ?_ GE128.out | refine bS ?_ GE129.out | refine bS ?_ GE133.out) | exact HB.out)⟩⟩
   case rest =>
    clear HC18
    try clear c1
    try clear c2
    try clear p2
    try clear c4
    try clear p6
    try clear c7
    try clear c19
    try clear c19b0
    try clear c20
    try clear c21
    try clear c23
    try clear c24
    try clear hcz22_0
    try clear hcz22_1
    try clear hcz22_2
    try clear hcz22_3
    try clear hcz22_4
    try clear hcz22_5
    try clear hcz22_6
    try clear hcz25_0
    try clear hcz25_1
    try clear hcz25_2
    try clear hcz25_3
    try clear hcz25_4
    try clear hcz25_5
    try clear hcz25_6
    try clear hfz22_0
    try clear hfz22_1
    try clear hfz22_2
    try clear hfz22_3
    try clear hfz22_4
    try clear hfz22_5
    try clear hfz22_6
    try clear hfz25_0
    try clear hfz25_1
    try clear hfz25_2
    try clear hfz25_3
    try clear hfz25_4
    try clear hfz25_5
    try clear hfz25_6
    try clear p2
    try clear p6
    obtain ⟨kq, x43_17, rfl, HA, HJ17, HO_134004, HO_134005, BK128, BK129, BK133, HB⟩ := hcut
    cases kq with
    | zero => exact absurd HA.out (by simp [stopgateref05_Fix.j1])
    | succ kj17 =>
     have H := HA.out
     clear HA
     simp only [stopgateref05_Fix.j1] at H
     by_cases c26 : x43_17 = true
     ·subst c26
      have H1 : (if 0 ≤ x4_1 then (if x4_1 < (l0_5.length : Int) then (if (IntKind.u64.wrap ((t130.length : Int))) = 0 then (none) else (if x134005_1.length < 17592186044416 then (stopgateref05_Fix.l0 kj17 (wrap64 (x4_1 + 1)) a0_0 a0_1 a0_2 a0_3 l0_4 l0_5 l0_6 (wrap64 (1 + (wrap64 (Int.tmod (IntKind.u64.wrap (a0_0)) 3)))) (wrap64 (Int.tmod (IntKind.u64.wrap (a0_1)) 4)) (wrap64 (1 + (wrap64 (Int.tmod (IntKind.u64.wrap (a0_2)) 6)))) (wrap64 (1 + (wrap64 (Int.tmod (IntKind.u64.wrap (a0_3)) 8)))) t130 (x134005_1 ++ [wrap64 (Int.tmod (IntKind.u64.wrap (rd l0_5 x4_1)) (IntKind.u64.wrap ((t130.length : Int))))])) else (none))) else (none)) else (none)) = some (r1, r2, r3, r4, r5, r6, r7) := by rw [if_pos rfl] at H; exact H
      clear H
      have H := H1
      clear H1
      by_cases c27 : 0 ≤ x4_1
      ·rw [if_pos c27] at H
       have c27b0 : decide (0 ≤ x4_1) = true := decide_eq_true c27
       clear c27
       by_cases c28 : x4_1 < (l0_5.length : Int)
       ·rw [if_pos c28] at H
        have c28b0 : decide (x4_1 < (l0_5.length : Int)) = true := decide_eq_true c28
        clear c28
        by_cases c29 : (IntKind.u64.wrap ((t130.length : Int))) = 0
        ·rw [if_pos c29] at H
         exact absurd H (by simp)
        ·rw [if_neg c29] at H
         have c29b0 : ((IntKind.u64.wrap ((t130.length : Int))) == 0) = false := beq_eq_false_iff_ne.mpr c29
         have c29b1 : ((IntKind.u64.wrap ((t130.length : Int))) != 0) = true := bne_iff_ne.mpr c29
         by_cases c30 : x134005_1.length < 17592186044416
         ·rw [if_pos c30] at H
          have LMc30 := A0s.mk c30
          clear c30
          obtain ⟨y135, hy135⟩ : ∃ y_ : List Int, y_ = (x134005_1 ++ [wrap64 (Int.tmod (IntKind.u64.wrap (rd l0_5 x4_1)) (IntKind.u64.wrap ((t130.length : Int))))]) := ⟨_, rfl⟩
          replace H : (stopgateref05_Fix.l0 kj17 (wrap64 (x4_1 + 1)) a0_0 a0_1 a0_2 a0_3 l0_4 l0_5 l0_6 (wrap64 (1 + (wrap64 (Int.tmod (IntKind.u64.wrap (a0_0)) 3)))) (wrap64 (Int.tmod (IntKind.u64.wrap (a0_1)) 4)) (wrap64 (1 + (wrap64 (Int.tmod (IntKind.u64.wrap (a0_2)) 6)))) (wrap64 (1 + (wrap64 (Int.tmod (IntKind.u64.wrap (a0_3)) 8)))) t130 y135) = some (r1, r2, r3, r4, r5, r6, r7) := by first | (rw [hy135]; with_reducible exact H) | (have H2_ := (Option.bind_some _ _).symm.trans H; rw [hy135]; with_reducible exact H2_) | (have H2_ := (Option.bind_some _ _).symm.trans H; with_reducible exact H2_) | with_reducible exact H | (rw [hy135]; exact H) | exact H
          have Ny135 := A0s.mk hy135
          clear hy135
          have H' := A0s.mk H
          clear H
          try go_wp2
          have n0_ := A0s.mk (Kd.RD HO_134004.out)
          have n1_ := A0s.mk (Kd.RD HO_134005.out)
          have n2_ := A0s.mk (kD BK128.out)
          have n3_ := A0s.mk (kD BK129.out)
          have n4_ := A0s.mk (kD BK133.out)
          have n5_ := A0s.mk (bD HB.out)
          clear HO_134004
          clear HO_134005
          clear BK128
          clear BK129
          clear BK133
          clear HB
          have HO_134004 := n0_
          have HO_134005 := n1_
          have BK128 := n2_
          have BK129 := n3_
          have BK133 := n4_
          have HB := n5_
          clear n0_ n1_ n2_ n3_ n4_ n5_
          have p134 : 0 ≤ (x4_1 : Int) := of_decide_eq_true (by first | (with_reducible assumption) | assumption)
          have q134 : x4_1 < (l0_5.length : Int) := of_decide_eq_true (by first | (with_reducible assumption) | assumption)
          obtain ⟨ad134, e134, hx134_0⟩ := Kd.at_int HR0_5.out x4_1 p134 q134
          have hw134_0 := hx134_0
          cases e134
          replace hx134_0 := (HB.out.cell (World.block_lt_of_cell? w _ hx134_0)).trans hx134_0
          replace p134 := eq_true p134
          replace q134 := eq_true q134
          refine start_ (n := 18) (S := fun w' => w'.cell? ⟨gb133, 0, none⟩ = some (.int .i64 (wrap64 (1 + (wrap64 (Int.tmod (IntKind.u64.wrap (a0_0)) 3))))) ∧ w'.cell? ⟨gb133, 1, none⟩ = some (.int .i64 (wrap64 (Int.tmod (IntKind.u64.wrap (a0_1)) 4))) ∧ w'.cell? ⟨gb133, 2, none⟩ = some (.int .i64 (wrap64 (1 + (wrap64 (Int.tmod (IntKind.u64.wrap (a0_2)) 6))))) ∧ w'.cell? ⟨gb133, 3, none⟩ = some (.int .i64 (wrap64 (1 + (wrap64 (Int.tmod (IntKind.u64.wrap (a0_3)) 8))))) ∧ w'.cell? ⟨gb133, 4, none⟩ = some (.slice Ao10 t130.length co10) ∧ w'.cell? ⟨gb133, 5, none⟩ = some (u134005) ∧ w'.cell? ⟨gb133, 6, none⟩ = some (.slice none 0 0) ∧ w'.cell? ⟨gb128, 0, none⟩ = some (.int .i64 a0_0) ∧ w'.cell? ⟨gb128, 1, none⟩ = some (.int .i64 a0_1) ∧ w'.cell? ⟨gb128, 2, none⟩ = some (.int .i64 a0_2) ∧ w'.cell? ⟨gb128, 3, none⟩ = some (.int .i64 a0_3) ∧ w'.cell? ⟨gb128, 4, none⟩ = some (.slice A0_4 l0_4.length c0_4) ∧ w'.cell? ⟨gb128, 5, none⟩ = some (.slice (some ad134) l0_5.length c0_5) ∧ w'.cell? ⟨gb128, 6, none⟩ = some (.slice A0_6 l0_6.length c0_6) ∧ w'.cell? (ad134.add (x4_1).toNat) = some (.int .i64 (rd l0_5 x4_1))) (ds := [17]) #[false, false, false, false, false, false, false, false, false, false, false, false, false, false, false, false, false, false] (by kernel_rfl) rfl rfl ⟨(kC BK133.out 0).trans rfl, (kC BK133.out 1).trans rfl, (kC BK133.out 2).trans rfl, (kC BK133.out 3).trans rfl, (kC BK133.out 4).trans rfl, (kC BK133.out 5).trans rfl, (kC BK133.out 6).trans rfl, (kC BK128.out 0).trans rfl, (kC BK128.out 1).trans rfl, (kC BK128.out 2).trans rfl, (kC BK128.out 3).trans rfl, (kC BK128.out 4).trans rfl, (kC BK128.out 5).trans rfl, (kC BK128.out 6).trans rfl, ((HB.out.cell (World.block_lt_of_cell? w _ hw134_0)).trans hw134_0)⟩ (fun hHeld => ?_); refine with_tabW stopgateref05_Fix.tab5 stopgateref05_Fix.bits5 (fun HT_ HW_ => ?_)
          generalize wc.drew = w31 at HO_134004 HO_134005 BK128 BK129 BK133 HB hx134_0 hHeld ⊢
          refine pure_ (i := 0) (N := some 46) (v := ?_) (a' := ?_) #[true, false, false, false, false, false, false, false, false, false, false, false, false, false, false, false, false, false] rfl rfl (any_of HT_.out (by kernel_rfl)) (fun _ _ _ h => h) (Or.inl ⟨by rfl, ?_⟩) ?_ ?_
          rotate_left
          ·intro w'
           go_simp
           with_reducible rfl
          rotate_left
          ·simp only [Act.put, List.setIfInBounds_toArray, List.set_cons_zero, List.set_cons_succ, i64_w, i32_w]
           rfl
          refine pure_ (i := 2) (N := some 48) (v := ?_) (a' := ?_) #[true, false, true, false, false, false, false, false, false, false, false, false, false, false, false, false, false, false] rfl rfl (any_of HT_.out (by kernel_rfl)) (fun _ _ _ h => h) (Or.inl ⟨by rfl, ?_⟩) ?_ ?_
          rotate_left
          ·intro w'
           go_simp
           with_reducible rfl
          rotate_left
          ·simp only [Act.put, List.setIfInBounds_toArray, List.set_cons_zero, List.set_cons_succ, i64_w, i32_w]
           rfl
          refine pure_ (i := 4) (N := some 50) (v := ?_) (a' := ?_) #[true, false, true, false, true, false, false, false, false, false, false, false, false, false, false, false, false, false] rfl rfl (any_of HT_.out (by kernel_rfl)) (fun _ _ _ h => h) (Or.inl ⟨by rfl, ?_⟩) ?_ ?_
          rotate_left
          ·intro w'
           go_simp
           with_reducible rfl
          rotate_left
          ·simp only [Act.put, List.setIfInBounds_toArray, List.set_cons_zero, List.set_cons_succ, i64_w, i32_w]
           rfl
          refine pure_ (i := 8) (N := some 54) (v := ?_) (a' := ?_) #[true, false, true, false, true, false, false, false, true, false, false, false, false, false, false, false, false, false] rfl rfl (any_of HT_.out (by kernel_rfl)) (fun _ _ _ h => h) (Or.inl ⟨by rfl, ?_⟩) ?_ ?_
          rotate_left
          ·intro w'
           go_simp
           with_reducible rfl
          rotate_left
          ·simp only [Act.put, List.setIfInBounds_toArray, List.set_cons_zero, List.set_cons_succ, i64_w, i32_w]
           rfl
          refine take_ (i := 1) (N := some 47) (v := ?_) (a' := ?_) #[true, true, true, false, true, false, false, false, true, false, false, false, false, false, false, false, false, false] rfl rfl (take_ofW HT_.out HW_.out (by kernel_rfl)) (fun _ _ _ h => h) (Or.inl ⟨by rfl, ?_⟩) hHeld ?_ ?_
          rotate_left
          ·rintro w' ⟨s0, s1, s2, s3, s4, s5, s6, s7, s8, s9, s10, s11, s12, s13, s14⟩
           go_simp
           with_reducible rfl
          rotate_left
          ·simp only [Act.put, List.setIfInBounds_toArray, List.set_cons_zero, List.set_cons_succ, i64_w, i32_w]
           rfl
          refine take_ (i := 3) (N := some 49) (v := ?_) (a' := ?_) #[true, true, true, true, true, false, false, false, true, false, false, false, false, false, false, false, false, false] rfl rfl (take_ofW HT_.out HW_.out (by kernel_rfl)) (fun _ _ _ h => h) (Or.inl ⟨by rfl, ?_⟩) hHeld ?_ ?_
          rotate_left
          ·rintro w' ⟨s0, s1, s2, s3, s4, s5, s6, s7, s8, s9, s10, s11, s12, s13, s14⟩
           go_simp
           with_reducible rfl
          rotate_left
          ·simp only [Act.put, List.setIfInBounds_toArray, List.set_cons_zero, List.set_cons_succ, i64_w, i32_w]
           rfl
          refine pure_ (i := 5) (N := some 51) (v := ?_) (a' := ?_) #[true, true, true, true, true, true, false, false, true, false, false, false, false, false, false, false, false, false] rfl rfl (any_of HT_.out (by kernel_rfl)) (fun _ _ _ h => h) (Or.inl ⟨by rfl, ?_⟩) ?_ ?_
          rotate_left
          ·intro w'
           go_simp
           with_reducible rfl
          rotate_left
          ·simp only [Act.put, List.setIfInBounds_toArray, List.set_cons_zero, List.set_cons_succ, i64_w, i32_w]
           rfl
          refine take_ (i := 6) (N := some 52) (v := ?_) (a' := ?_) #[true, true, true, true, true, true, true, false, true, false, false, false, false, false, false, false, false, false] rfl rfl (take_ofW HT_.out HW_.out (by kernel_rfl)) (fun _ _ _ h => h) (Or.inl ⟨by rfl, ?_⟩) hHeld ?_ ?_
          rotate_left
          ·rintro w' ⟨s0, s1, s2, s3, s4, s5, s6, s7, s8, s9, s10, s11, s12, s13, s14⟩
           go_simp
           with_reducible rfl
          rotate_left
          ·simp only [Act.put, List.setIfInBounds_toArray, List.set_cons_zero, List.set_cons_succ, i64_w, i32_w]
           rfl
          refine pure_ (i := 7) (N := some 53) (v := ?_) (a' := ?_) #[true, true, true, true, true, true, true, true, true, false, false, false, false, false, false, false, false, false] rfl rfl (any_of HT_.out (by kernel_rfl)) (fun _ _ _ h => h) (Or.inl ⟨by rfl, ?_⟩) ?_ ?_
          rotate_left
          ·intro w'
           go_simp
           with_reducible rfl
          rotate_left
          ·simp only [Act.put, List.setIfInBounds_toArray, List.set_cons_zero, List.set_cons_succ, i64_w, i32_w]
           rfl
          refine take_ (i := 9) (N := some 55) (v := ?_) (a' := ?_) #[true, true, true, true, true, true, true, true, true, true, false, false, false, false, false, false, false, false] rfl rfl (take_ofW HT_.out HW_.out (by kernel_rfl)) (fun _ _ _ h => h) (Or.inl ⟨by rfl, ?_⟩) hHeld ?_ ?_
          rotate_left
          ·rintro w' ⟨s0, s1, s2, s3, s4, s5, s6, s7, s8, s9, s10, s11, s12, s13, s14⟩
           go_simp
           with_reducible rfl
          rotate_left
          ·simp only [Act.put, List.setIfInBounds_toArray, List.set_cons_zero, List.set_cons_succ, i64_w, i32_w]
           rfl
          refine pure_ (i := 10) (N := some 56) (v := ?_) (a' := ?_) #[true, true, true, true, true, true, true, true, true, true, true, false, false, false, false, false, false, false] rfl rfl (any_of HT_.out (by kernel_rfl)) (fun _ _ _ h => h) (Or.inl ⟨by rfl, ?_⟩) ?_ ?_
          rotate_left
          ·intro w'
           go_simp
           with_reducible rfl
          rotate_left
          ·simp only [Act.put, List.setIfInBounds_toArray, List.set_cons_zero, List.set_cons_succ, i64_w, i32_w]
           rfl
          refine pure_ (i := 11) (N := some 57) (v := ?_) (a' := ?_) #[true, true, true, true, true, true, true, true, true, true, true, true, false, false, false, false, false, false] rfl rfl (any_of HT_.out (by kernel_rfl)) (fun _ _ _ h => h) (Or.inl ⟨by rfl, ?_⟩) ?_ ?_
          rotate_left
          ·intro w'
           go_simp
           with_reducible rfl
          rotate_left
          ·simp only [Act.put, List.setIfInBounds_toArray, List.set_cons_zero, List.set_cons_succ, i64_w, i32_w]
           rfl
          refine pure_ (i := 12) (N := some 58) (v := ?_) (a' := ?_) #[true, true, true, true, true, true, true, true, true, true, true, true, true, false, false, false, false, false] rfl rfl (any_of HT_.out (by kernel_rfl)) (fun _ _ _ h => h) (Or.inl ⟨by rfl, ?_⟩) ?_ ?_
          rotate_left
          ·intro w'
           go_simp
           with_reducible rfl
          rotate_left
          ·simp only [Act.put, List.setIfInBounds_toArray, List.set_cons_zero, List.set_cons_succ, i64_w, i32_w]
           rfl
          refine pure_ (i := 13) (N := some 59) (v := ?_) (a' := ?_) #[true, true, true, true, true, true, true, true, true, true, true, true, true, true, false, false, false, false] rfl rfl (any_of HT_.out (by kernel_rfl)) (fun _ _ _ h => h) (Or.inl ⟨by rfl, ?_⟩) ?_ ?_
          rotate_left
          ·intro w'
           go_simp
           with_reducible rfl
          rotate_left
          ·simp only [Act.put, List.setIfInBounds_toArray, List.set_cons_zero, List.set_cons_succ, i64_w, i32_w]
           rfl
          refine one_ (i := 14) (N := some 60) #[true, true, true, true, true, true, true, true, true, true, true, true, true, true, true, false, false, false] rfl rfl (one_of HT_.out (by kernel_rfl)) (by decide) (fun K hK => ?_)
          refine value_ (w1 := ?_) (v := ?_) (by rfl) rfl ?_ ?_
          rotate_left 2
          ·go_simp
           constructor
           ·rfl
           ·rfl
          refine hK.out _ _ ⟨(kC (kA BK133.out _) 0).trans rfl, (kC (kA BK133.out _) 1).trans rfl, (kC (kA BK133.out _) 2).trans rfl, (kC (kA BK133.out _) 3).trans rfl, (kC (kA BK133.out _) 4).trans rfl, (kC (kA BK133.out _) 5).trans rfl, (kC (kA BK133.out _) 6).trans rfl, (kC (kA BK128.out _) 0).trans rfl, (kC (kA BK128.out _) 1).trans rfl, (kC (kA BK128.out _) 2).trans rfl, (kC (kA BK128.out _) 3).trans rfl, (kC (kA BK128.out _) 4).trans rfl, (kC (kA BK128.out _) 5).trans rfl, (kC (kA BK128.out _) 6).trans rfl, (World.cell?_alloc_lt _ _ _ (World.block_lt_of_cell? _ _ (((HB.out.cell (World.block_lt_of_cell? w _ hw134_0)).trans hw134_0)))).trans (((HB.out.cell (World.block_lt_of_cell? w _ hw134_0)).trans hw134_0))⟩ (fun hHeld => ?_)
          clear hK K
          refine norm_ (a' := ?_) ?_ ?_
          rotate_left
          ·show Act.put _ (some 60) _ = _
           simp only [Act.put, List.setIfInBounds_toArray, List.set_cons_zero, List.set_cons_succ, i64_w, i32_w]
           rfl
          refine one_ (i := 15) (N := some 61) #[true, true, true, true, true, true, true, true, true, true, true, true, true, true, true, true, false, false] rfl rfl (one_of HT_.out (by kernel_rfl)) (by decide) (fun K hK => ?_)
          refine Kd.R_append_step (Kd.int .i64) (w0 := w) w.heap.size (by rfl) (.tmp 47) (.tmp 60) 57 3 (.int .i64 0) 8 rfl Try.underlying57 info3 rfl (by decide) (by omega) u134005 x134005_1 (wrap64 (Int.tmod (IntKind.u64.wrap (rd l0_5 x4_1)) (IntKind.u64.wrap ((t130.length : Int))))) [.int .i64 (wrap64 (Int.tmod (IntKind.u64.wrap (rd l0_5 x4_1)) (IntKind.u64.wrap ((t130.length : Int)))))] (fun _ => True) (fun _ => False) rfl rfl ?aP (fun _ hk => hk.elim) ?aF ?aO ?aB ?aS ?aL ?_
          (case aP => exact rfl)
          (case aB => exact (by repeat (first | (with_reducible first | exact HB.out | apply bA | apply bN | apply bD | refine bS ?_ GE128.out | refine bS ?_ GE129.out | refine bS ?_ GE133.out) | exact HB.out)))
          (case aF => exact (fun _ _ => trivial))
          (case aO => exact (by (with_reducible repeat (first | apply Kd.RA | apply Kd.RN | apply Kd.RD)); exact HO_134005.out))
          (case aS => exact (below_size (by repeat (first | (with_reducible first | exact HB.out | apply bA | apply bN | apply bD | refine bS ?_ GE128.out | refine bS ?_ GE129.out | refine bS ?_ GE133.out) | exact HB.out))))
          (case aL => have := LMc30.out; omega)
          intro v136 w32 ho hb hg hat
          rw [← Ny135.out] at ho
          have n0_ := A0s.mk (Kd.R_over' (by (with_reducible repeat (first | apply Kd.RA | apply Kd.RN | apply Kd.RD)); exact HO_134004.out) (Kd.R_typed (by (with_reducible repeat (first | apply Kd.RA | apply Kd.RN | apply Kd.RD)); exact HO_134005.out)) (by decide) hg)
          have n1_ := A0s.mk (blk_grown (g := gb128) (o := .cells #[.int .i64 a0_0, .int .i64 a0_1, .int .i64 a0_2, .int .i64 a0_3, .slice A0_4 l0_4.length c0_4, .slice (some ad134) l0_5.length c0_5, .slice A0_6 l0_6.length c0_6] 81 (0, 0)) (by (with_reducible repeat (first | apply kN | apply kD | apply kA)); exact BK128.out) hg (Kd.R_ne HO_134005.out BK128.out (by decide)))
          have n2_ := A0s.mk (blk_grown (g := gb129) (o := .cells #[.int .i64 0, .int .i64 0, .int .i64 0, .int .i64 0, .slice none 0 0, .slice none 0 0, .slice none 0 0] 81 (0, 0)) (by (with_reducible repeat (first | apply kN | apply kD | apply kA)); exact BK129.out) hg (Kd.R_ne HO_134005.out BK129.out (by decide)))
          have n3_ := A0s.mk (blk_grown (g := gb133) (o := .cells #[.int .i64 (wrap64 (1 + (wrap64 (Int.tmod (IntKind.u64.wrap (a0_0)) 3)))), .int .i64 (wrap64 (Int.tmod (IntKind.u64.wrap (a0_1)) 4)), .int .i64 (wrap64 (1 + (wrap64 (Int.tmod (IntKind.u64.wrap (a0_2)) 6)))), .int .i64 (wrap64 (1 + (wrap64 (Int.tmod (IntKind.u64.wrap (a0_3)) 8)))), .slice Ao10 t130.length co10, u134005, .slice none 0 0] 81 (0, 0)) (by (with_reducible repeat (first | apply kN | apply kD | apply kA)); exact BK133.out) hg (Kd.R_ne HO_134005.out BK133.out (by decide)))
          have n4_ := A0s.mk (hb)
          have n5_ := A0s.mk (ho)
          clear HO_134004
          clear BK128
          clear BK129
          clear BK133
          clear HB
          clear HO_134005
          have HO_134004 := n0_
          have BK128 := n1_
          have BK129 := n2_
          have BK133 := n3_
          have HB := n4_
          have HO137 := n5_
          clear n0_ n1_ n2_ n3_ n4_ n5_
          clear ho hb hg hat
          obtain ⟨Ao33, co33, eo33⟩ := Kd.R_slice HO137.out
          (first | subst eo33 | (injection eo33 with f1_ f2_ f3_; have f4_ := f1_.symm; have f5_ := f3_.symm; clear f1_ f2_ f3_; subst f4_; subst f5_))
          refine hK.out _ _ ⟨(kC BK133.out 0).trans rfl, (kC BK133.out 1).trans rfl, (kC BK133.out 2).trans rfl, (kC BK133.out 3).trans rfl, (kC BK133.out 4).trans rfl, (kC BK133.out 5).trans rfl, (kC BK133.out 6).trans rfl, (kC BK128.out 0).trans rfl, (kC BK128.out 1).trans rfl, (kC BK128.out 2).trans rfl, (kC BK128.out 3).trans rfl, (kC BK128.out 4).trans rfl, (kC BK128.out 5).trans rfl, (kC BK128.out 6).trans rfl, ((HB.out.cell (World.block_lt_of_cell? w _ hw134_0)).trans hw134_0)⟩ (fun hHeld => ?_)
          clear hK K
          refine norm_ (a' := ?_) ?_ ?_
          rotate_left
          ·show Act.put _ (some 61) _ = _
           simp only [Act.put, List.setIfInBounds_toArray, List.set_cons_zero, List.set_cons_succ, i64_w, i32_w]
           rfl
          refine pure_ (i := 16) (N := some 62) (v := ?_) (a' := ?_) #[true, true, true, true, true, true, true, true, true, true, true, true, true, true, true, true, true, false] rfl rfl (any_of HT_.out (by kernel_rfl)) (fun _ _ _ h => h) (Or.inl ⟨by rfl, ?_⟩) ?_ ?_
          rotate_left
          ·intro w'
           go_simp
           with_reducible rfl
          rotate_left
          ·simp only [Act.put, List.setIfInBounds_toArray, List.set_cons_zero, List.set_cons_succ, i64_w, i32_w]
           rfl
          refine last_ (i := 17) (N := none) #[true, true, true, true, true, true, true, true, true, true, true, true, true, true, true, true, true, true] rfl rfl (one_of HT_.out (by kernel_rfl)) (by decide) (fun K hK => ?_)
          have hs34 : w32.cell? ⟨gb133, 5, none⟩ = some (u134005) := (kC BK133.out 5).trans rfl
          have hfs34 := blk_frozen BK133.out 5
          have hns34_0 := NB128_133.out
          have hns34_1 := NB129_133.out
          have hms34_0 := NB133_128.out
          have hms34_1 := NB133_129.out
          refine skip_ (w1 := ?_) (by rfl) rfl ?_ ?_
          rotate_left
          ·go_simp
           rfl
          refine hK.out _ _ ?_
          clear hK K
          refine done_ (done_of HT_.out (by kernel_rfl)) ?_
          try go_wp2
          go_roundg kj17
          case measure => have := HK1.out; have := HJ17.out; omega
          case rel => exact ⟨(wrap64 (x4_1 + 1)), (y135), (.slice Ao33 y135.length co33), (by first | rfl | (simp; done) | (simp [*]; done)), H', ⟨by have := HK1.out; have := HJ17.out; omega⟩, ⟨by (with_reducible repeat (first | apply Kd.RA | apply Kd.RN | apply Kd.RD)); exact Kd.R_mono (Kd.R_far (p := ⟨gb133, 5, none⟩) (Kd.R_types HO_134004.out BK133.out (by decide)) (fun _ hk => hk.2) (.slice Ao33 y135.length co33)) (fun _ hk => trivial)⟩, ⟨by (with_reducible repeat (first | apply Kd.RA | apply Kd.RN | apply Kd.RD)); exact Kd.R_mono (Kd.R_far (p := ⟨gb133, 5, none⟩) (Kd.R_types HO137.out BK133.out (by decide)) (fun _ hk => hk.2) (.slice Ao33 y135.length co33)) (fun _ hk => trivial)⟩, ⟨by (with_reducible repeat (first | apply kN | apply kD | apply kA)); refine blk_far ?_ NB128_133.out _; (with_reducible repeat (first | apply kN | apply kD | apply kA)); exact BK128.out⟩, ⟨by (with_reducible repeat (first | apply kN | apply kD | apply kA)); refine blk_far ?_ NB129_133.out _; (with_reducible repeat (first | apply kN | apply kD | apply kA)); exact BK129.out⟩, ⟨by (with_reducible repeat (first | apply kN | apply kD | apply kA)); refine blk_put (cs := #[.int .i64 (wrap64 (1 + (wrap64 (Int.tmod (IntKind.u64.wrap (a0_0)) 3)))), .int .i64 (wrap64 (Int.tmod (IntKind.u64.wrap (a0_1)) 4)), .int .i64 (wrap64 (1 + (wrap64 (Int.tmod (IntKind.u64.wrap (a0_2)) 6)))), .int .i64 (wrap64 (1 + (wrap64 (Int.tmod (IntKind.u64.wrap (a0_3)) 8)))), .slice Ao10 t130.length co10, u134005, .slice none 0 0]) ?_ 5 _ rfl; (with_reducible repeat (first | apply kN | apply kD | apply kA)); exact BK133.out⟩, ⟨by repeat (first | (with_reducible first | exact HB.out | apply bA | apply bN | apply bD | refine bS ?_ GE128.out | refine bS ?_ GE129.out | refine bS ?_ GE133.out) | exact HB.out)⟩⟩
         ·rw [if_neg c30] at H
          exact absurd H (by simp)
       ·rw [if_neg c28] at H
        exact absurd H (by simp)
      ·rw [if_neg c27] at H
       exact absurd H (by simp)
     ·replace c26 := Bool.eq_false_iff.mpr c26
      subst c26
      have H1 : (if (x134005_1.length : Int) = 0 then (stopgateref05_Fix.j2 kj17 a0_0 a0_1 a0_2 a0_3 l0_4 l0_5 l0_6 (wrap64 (1 + (wrap64 (Int.tmod (IntKind.u64.wrap (a0_0)) 3)))) (wrap64 (Int.tmod (IntKind.u64.wrap (a0_1)) 4)) (wrap64 (1 + (wrap64 (Int.tmod (IntKind.u64.wrap (a0_2)) 6)))) (wrap64 (1 + (wrap64 (Int.tmod (IntKind.u64.wrap (a0_3)) 8)))) t130 (([wrap64 ((t130.length : Int) - 1)] : List Int))) else (stopgateref05_Fix.j2 kj17 a0_0 a0_1 a0_2 a0_3 l0_4 l0_5 l0_6 (wrap64 (1 + (wrap64 (Int.tmod (IntKind.u64.wrap (a0_0)) 3)))) (wrap64 (Int.tmod (IntKind.u64.wrap (a0_1)) 4)) (wrap64 (1 + (wrap64 (Int.tmod (IntKind.u64.wrap (a0_2)) 6)))) (wrap64 (1 + (wrap64 (Int.tmod (IntKind.u64.wrap (a0_3)) 8)))) t130 x134005_1)) = some (r1, r2, r3, r4, r5, r6, r7) := by rw [if_neg (show ¬ (false = true) by decide)] at H; exact H
      clear H
      have H := H1
      clear H1
      have HC35 := A0s.mk H
      clear H
      have hnb36 := NB133_128.out
      have hnc36 := NB128_133.out
      have hnb37 := NB133_129.out
      have hnc37 := NB129_133.out
      obtain ⟨hcz38_0, hcz38_1, hcz38_2, hcz38_3, hcz38_4, hcz38_5, hcz38_6, hfz38_0, hfz38_1, hfz38_2, hfz38_3, hfz38_4, hfz38_5, hfz38_6⟩ := blk_all7 BK133.out
      obtain ⟨Ao39, co39, eo39⟩ := Kd.R_slice HO_134005.out
      subst eo39
      go_upto_if 66 with (fail)
      go_cut [] (fun wc => ∃ (kq : Nat) (x134005_34 : List Int) (u134005 : Value), A0s (stopgateref05_Fix.j2 kq a0_0 a0_1 a0_2 a0_3 l0_4 l0_5 l0_6 (wrap64 (1 + (wrap64 (Int.tmod (IntKind.u64.wrap (a0_0)) 3)))) (wrap64 (Int.tmod (IntKind.u64.wrap (a0_1)) 4)) (wrap64 (1 + (wrap64 (Int.tmod (IntKind.u64.wrap (a0_2)) 6)))) (wrap64 (1 + (wrap64 (Int.tmod (IntKind.u64.wrap (a0_3)) 8)))) t130 x134005_34 = some (r1, r2, r3, r4, r5, r6, r7)) ∧ A0s (kq ≤ kj17) ∧ A0s (Kd.R k176 176 wc w.heap.size (fun _ => True) (.slice Ao10 t130.length co10) t130) ∧ A0s (Kd.R (Kd.int .i64) 3 wc w.heap.size (fun _ => True) u134005 x134005_34) ∧ A0s (wc.heap[gb128]? = some (.cells #[.int .i64 a0_0, .int .i64 a0_1, .int .i64 a0_2, .int .i64 a0_3, (.slice A0_4 l0_4.length c0_4), (.slice A0_5 l0_5.length c0_5), (.slice A0_6 l0_6.length c0_6)] 81 (0, 0))) ∧ A0s (wc.heap[gb129]? = some (.cells #[.int .i64 0, .int .i64 0, .int .i64 0, .int .i64 0, (.slice none 0 0), (.slice none 0 0), (.slice none 0 0)] 81 (0, 0))) ∧ A0s (wc.heap[gb133]? = some (.cells #[.int .i64 (wrap64 (1 + (wrap64 (Int.tmod (IntKind.u64.wrap (a0_0)) 3)))), .int .i64 (wrap64 (Int.tmod (IntKind.u64.wrap (a0_1)) 4)), .int .i64 (wrap64 (1 + (wrap64 (Int.tmod (IntKind.u64.wrap (a0_2)) 6)))), .int .i64 (wrap64 (1 + (wrap64 (Int.tmod (IntKind.u64.wrap (a0_3)) 8)))), (.slice Ao10 t130.length co10), u134005, (.slice none 0 0)] 81 (0, 0))) ∧ A0s (Below w.heap.size w wc))
      case first =>
       have H := HC35.out
       clear HC35
       by_cases c40 : (x134005_1.length : Int) = 0
       ·rw [if_pos c40] at H
        have c40b0 : ((x134005_1.length : Int) == 0) = true := beq_iff_eq.mpr c40
        have c40b1 : ((x134005_1.length : Int) != 0) = false := bne_eq_false_iff_eq.mpr c40
        clear c40
        (first | rw [c40b0] | (simp only [i64_w, i32_w]; rw [c40b0]) | skip)
        obtain ⟨y138, hy138⟩ : ∃ y_ : List Int, y_ = (([wrap64 ((t130.length : Int) - 1)] : List Int)) := ⟨_, rfl⟩
        replace H : (stopgateref05_Fix.j2 kj17 a0_0 a0_1 a0_2 a0_3 l0_4 l0_5 l0_6 (wrap64 (1 + (wrap64 (Int.tmod (IntKind.u64.wrap (a0_0)) 3)))) (wrap64 (Int.tmod (IntKind.u64.wrap (a0_1)) 4)) (wrap64 (1 + (wrap64 (Int.tmod (IntKind.u64.wrap (a0_2)) 6)))) (wrap64 (1 + (wrap64 (Int.tmod (IntKind.u64.wrap (a0_3)) 8)))) t130 y138) = some (r1, r2, r3, r4, r5, r6, r7) := by first | (rw [hy138]; with_reducible exact H) | (have H2_ := (Option.bind_some _ _).symm.trans H; rw [hy138]; with_reducible exact H2_) | (have H2_ := (Option.bind_some _ _).symm.trans H; with_reducible exact H2_) | with_reducible exact H | (rw [hy138]; exact H) | exact H
        have Ny138 := A0s.mk hy138
        clear hy138
        have H' := A0s.mk H
        clear H
        have hnb41 := NB133_128.out
        have hnc41 := NB128_133.out
        have hnb42 := NB133_129.out
        have hnc42 := NB129_133.out
        obtain ⟨hcz43_0, hcz43_1, hcz43_2, hcz43_3, hcz43_4, hcz43_5, hcz43_6, hfz43_0, hfz43_1, hfz43_2, hfz43_3, hfz43_4, hfz43_5, hfz43_6⟩ := blk_all7 BK133.out
        go_wp2_with (first | ((with_reducible refine gate_dst (N := 71) rfl ?_); refine Kd.R_lit (Kd.int .i64) _ 3 ?hg (N := 71) ?hd (xs := ([wrap64 ((t130.length : Int) - 1)] : List Int)) (inner := [.int .i64 (wrap64 ((t130.length : Int) - 1))]) (ok := fun _ => True) (okp := fun _ => True) ?hr ?hp (fun _ hk => hk) trivial (Below.refl _ _) (Nat.le_refl _) (by simp) ?_; (case hd => rfl); (case hg => rfl); (case hr => first | (go_simp; done) | (go_simp; rfl)); (case hp => exact (Reps.one (show Kd.M (Kd.int .i64) _ _ _ (wrap64 ((t130.length : Int) - 1)) [.int .i64 (wrap64 ((t130.length : Int) - 1))] from rfl) (Reps.none _ _))); intro v139 w44 ho45 hb hg_ hnew_; clear hg_ hnew_; (first | rw [← Ny138.out] at ho45 | (simp only [Int.reduceToNat] at ho45; rw [← Ny138.out] at ho45)); have n0_ := A0s.mk (Kd.R_below (by (with_reducible repeat (first | apply Kd.RA | apply Kd.RN | apply Kd.RD)); exact HO_134004.out) hb); have n1_ := A0s.mk (Kd.R_elder' (by (with_reducible repeat (first | apply Kd.RA | apply Kd.RN | apply Kd.RD)); exact HO_134005.out) (Kd.R_base ho45) hb); have n2_ := A0s.mk (Kd.R_lower (Kd.R_new' ho45 (Kd.R_lt (by (with_reducible repeat (first | apply Kd.RA | apply Kd.RN | apply Kd.RD)); exact HO_134005.out))) (below_size (by repeat (first | (with_reducible first | exact HB.out | apply bA | apply bN | apply bD | refine bS ?_ GE128.out | refine bS ?_ GE129.out | refine bS ?_ GE133.out) | exact HB.out)))); have n3_ := A0s.mk (blk_below (g := gb128) (o := .cells #[.int .i64 a0_0, .int .i64 a0_1, .int .i64 a0_2, .int .i64 a0_3, .slice A0_4 l0_4.length c0_4, .slice A0_5 l0_5.length c0_5, .slice A0_6 l0_6.length c0_6] 81 (0, 0)) (by (with_reducible repeat (first | apply kN | apply kD | apply kA)); exact BK128.out) hb); have n4_ := A0s.mk (blk_below (g := gb129) (o := .cells #[.int .i64 0, .int .i64 0, .int .i64 0, .int .i64 0, .slice none 0 0, .slice none 0 0, .slice none 0 0] 81 (0, 0)) (by (with_reducible repeat (first | apply kN | apply kD | apply kA)); exact BK129.out) hb); have n5_ := A0s.mk (blk_below (g := gb133) (o := .cells #[.int .i64 (wrap64 (1 + (wrap64 (Int.tmod (IntKind.u64.wrap (a0_0)) 3)))), .int .i64 (wrap64 (Int.tmod (IntKind.u64.wrap (a0_1)) 4)), .int .i64 (wrap64 (1 + (wrap64 (Int.tmod (IntKind.u64.wrap (a0_2)) 6)))), .int .i64 (wrap64 (1 + (wrap64 (Int.tmod (IntKind.u64.wrap (a0_3)) 8)))), .slice Ao10 t130.length co10, .slice Ao39 x134005_1.length co39, .slice none 0 0] 81 (0, 0)) (by (with_reducible repeat (first | apply kN | apply kD | apply kA)); exact BK133.out) hb); have n6_ := A0s.mk (below_step (by repeat (first | (with_reducible first | exact HB.out | apply bA | apply bN | apply bD | refine bS ?_ GE128.out | refine bS ?_ GE129.out | refine bS ?_ GE133.out) | exact HB.out)) hb); clear HO_134004; clear HO_134005; clear BK128; clear BK129; clear BK133; clear HB; have HO_134004 := n0_; have HO_134005 := n1_; have HO140 := n2_; have BK128 := n3_; have BK129 := n4_; have BK133 := n5_; have HB := n6_; clear n0_ n1_ n2_ n3_ n4_ n5_ n6_; clear hb ho45; obtain ⟨Ao46, co46, eo46⟩ := Kd.R_slice HO140.out; subst eo46; obtain ⟨hcz47_0, hcz47_1, hcz47_2, hcz47_3, hcz47_4, hcz47_5, hcz47_6, hfz47_0, hfz47_1, hfz47_2, hfz47_3, hfz47_4, hfz47_5, hfz47_6⟩ := blk_all7 BK133.out))
        go_meet
        case rel => exact ⟨_, (y138), (.slice Ao46 y138.length co46), H', ⟨by have := HK1.out; have := HJ17.out; first | omega | exact Nat.le_refl _⟩, ⟨by (with_reducible repeat (first | apply Kd.RA | apply Kd.RN | apply Kd.RD)); exact Kd.R_mono (Kd.R_far (p := ⟨gb133, 5, none⟩) (Kd.R_types HO_134004.out BK133.out (by decide)) (fun _ hk => hk.2) (.slice Ao46 y138.length co46)) (fun _ hk => trivial)⟩, ⟨by (with_reducible repeat (first | apply Kd.RA | apply Kd.RN | apply Kd.RD)); exact Kd.R_mono (Kd.R_far (p := ⟨gb133, 5, none⟩) (Kd.R_types HO140.out BK133.out (by decide)) (fun _ hk => hk.2) (.slice Ao46 y138.length co46)) (fun _ hk => trivial)⟩, ⟨by (with_reducible repeat (first | apply kN | apply kD | apply kA)); refine blk_far ?_ NB128_133.out _; (with_reducible repeat (first | apply kN | apply kD | apply kA)); exact BK128.out⟩, ⟨by (with_reducible repeat (first | apply kN | apply kD | apply kA)); refine blk_far ?_ NB129_133.out _; (with_reducible repeat (first | apply kN | apply kD | apply kA)); exact BK129.out⟩, ⟨by (with_reducible repeat (first | apply kN | apply kD | apply kA)); refine blk_put (cs := #[.int .i64 (wrap64 (1 + (wrap64 (Int.tmod (IntKind.u64.wrap (a0_0)) 3)))), .int .i64 (wrap64 (Int.tmod (IntKind.u64.wrap (a0_1)) 4)), .int .i64 (wrap64 (1 + (wrap64 (Int.tmod (IntKind.u64.wrap (a0_2)) 6)))), .int .i64 (wrap64 (1 + (wrap64 (Int.tmod (IntKind.u64.wrap (a0_3)) 8)))), .slice Ao10 t130.length co10, .slice Ao39 x134005_1.length co39, .slice none 0 0]) ?_ 5 _ rfl; (with_reducible repeat (first | apply kN | apply kD | apply kA)); exact BK133.out⟩, ⟨by repeat (first | (with_reducible first | exact HB.out | apply bA | apply bN | apply bD | refine bS ?_ GE128.out | refine bS ?_ GE129.out | refine bS ?_ GE133.out) | exact HB.out)⟩⟩
       ·rw [if_neg c40] at H
        have c40b0 : ((x134005_1.length : Int) == 0) = false := beq_eq_false_iff_ne.mpr c40
        have c40b1 : ((x134005_1.length : Int) != 0) = true := bne_iff_ne.mpr c40
        have c40b2 : ¬ (x134005_1 = []) := fun h_ => c40 (by rw [h_]; rfl)
        (first | rw [c40b0] | (simp only [i64_w, i32_w]; rw [c40b0]) | skip)
        have H' := A0s.mk H
        clear H
        go_wp2
        go_meet
        case rel => exact ⟨_, (x134005_1), (.slice Ao39 x134005_1.length co39), H', ⟨by have := HK1.out; have := HJ17.out; first | omega | exact Nat.le_refl _⟩, ⟨by (with_reducible repeat (first | apply Kd.RA | apply Kd.RN | apply Kd.RD)); exact HO_134004.out⟩, ⟨by (with_reducible repeat (first | apply Kd.RA | apply Kd.RN | apply Kd.RD)); exact HO_134005.out⟩, ⟨by (with_reducible repeat (first | apply kN | apply kD | apply kA)); exact BK128.out⟩, ⟨by (with_reducible repeat (first | apply kN | apply kD | apply kA)); exact BK129.out⟩, ⟨by (with_reducible repeat (first | apply kN | apply kD | apply kA)); exact BK133.out⟩, ⟨by repeat (first | (with_reducible first | exact HB.out | apply bA | apply bN | apply bD | refine bS ?_ GE128.out | refine bS ?_ GE129.out | refine bS ?_ GE133.out) | exact HB.out)⟩⟩
      case rest =>
       clear HC35
       try clear c1
       try clear p1
       try clear q1
       try clear hx1
       try clear c2
       try clear p2
       try clear c3
       try clear c4
       try clear p6
       try clear c7
       try clear p13
       try clear q13
       try clear hx13
       try clear c19
       try clear c19b0
       try clear c20
       try clear c21
       try clear c23
       try clear c24
       try clear c26
       try clear c27
       try clear c27b0
       try clear c28
       try clear c28b0
       try clear c29
       try clear c29b0
       try clear c29b1
       try clear c30
       try clear c36
       try clear c37
       try clear c40
       try clear c40b0
       try clear c40b1
       try clear c40b2
       try clear c41
       try clear c42
       try clear hcz22_0
       try clear hcz22_1
       try clear hcz22_2
       try clear hcz22_3
       try clear hcz22_4
       try clear hcz22_5
       try clear hcz22_6
       try clear hcz25_0
       try clear hcz25_1
       try clear hcz25_2
       try clear hcz25_3
       try clear hcz25_4
       try clear hcz25_5
       try clear hcz25_6
       try clear hcz38_0
       try clear hcz38_1
       try clear hcz38_2
       try clear hcz38_3
       try clear hcz38_4
       try clear hcz38_5
       try clear hcz38_6
       try clear hcz43_0
       try clear hcz43_1
       try clear hcz43_2
       try clear hcz43_3
       try clear hcz43_4
       try clear hcz43_5
       try clear hcz43_6
       try clear hcz47_0
       try clear hcz47_1
       try clear hcz47_2
       try clear hcz47_3
       try clear hcz47_4
       try clear hcz47_5
       try clear hcz47_6
       try clear hfz22_0
       try clear hfz22_1
       try clear hfz22_2
       try clear hfz22_3
       try clear hfz22_4
       try clear hfz22_5
       try clear hfz22_6
       try clear hfz25_0
       try clear hfz25_1
       try clear hfz25_2
       try clear hfz25_3
       try clear hfz25_4
       try clear hfz25_5
       try clear hfz25_6
       try clear hfz38_0
       try clear hfz38_1
       try clear hfz38_2
       try clear hfz38_3
       try clear hfz38_4
       try clear hfz38_5
       try clear hfz38_6
       try clear hfz43_0
       try clear hfz43_1
       try clear hfz43_2
       try clear hfz43_3
       try clear hfz43_4
       try clear hfz43_5
       try clear hfz43_6
       try clear hfz47_0
       try clear hfz47_1
       try clear hfz47_2
       try clear hfz47_3
       try clear hfz47_4
       try clear hfz47_5
       try clear hfz47_6
       try clear hx134_0
       try clear p134
       try clear p2
       try clear p6
       try clear q134
       obtain ⟨kq, x134005_34, u134005, HA, HJ34, HO_134004, HO_134005, BK128, BK129, BK133, HB⟩ := hcut
       cases kq with
       | zero => exact absurd HA.out (by simp [stopgateref05_Fix.j2])
       | succ kj34 =>
        have H := HA.out
        clear HA
        simp only [stopgateref05_Fix.j2] at H
        have H' := A0s.mk H
        clear H
        go_wp2
        go_loopg [5] kj34 (fun kq v5 w' => ∃ (x5_4 : Int) (x134006_4 : List (S86)) (u134006 : Value), v5 = .int .i64 x5_4 ∧ A0s (stopgateref05_Fix.l1 kq x5_4 a0_0 a0_1 a0_2 a0_3 l0_4 l0_5 l0_6 (wrap64 (1 + (wrap64 (Int.tmod (IntKind.u64.wrap (a0_0)) 3)))) (wrap64 (Int.tmod (IntKind.u64.wrap (a0_1)) 4)) (wrap64 (1 + (wrap64 (Int.tmod (IntKind.u64.wrap (a0_2)) 6)))) (wrap64 (1 + (wrap64 (Int.tmod (IntKind.u64.wrap (a0_3)) 8)))) t130 x134005_34 x134006_4 = some (r1, r2, r3, r4, r5, r6, r7)) ∧ A0s (kq ≤ kj34) ∧ A0s (Kd.R k176 176 w' w.heap.size (fun _ => True) (.slice Ao10 t130.length co10) t130) ∧ A0s (Kd.R (Kd.int .i64) 3 w' w.heap.size (fun _ => True) u134005 x134005_34) ∧ A0s (Kd.R k86 86 w' w.heap.size (fun _ => True) u134006 x134006_4) ∧ A0s (w'.heap[gb128]? = some (.cells #[.int .i64 a0_0, .int .i64 a0_1, .int .i64 a0_2, .int .i64 a0_3, (.slice A0_4 l0_4.length c0_4), (.slice A0_5 l0_5.length c0_5), (.slice A0_6 l0_6.length c0_6)] 81 (0, 0))) ∧ A0s (w'.heap[gb129]? = some (.cells #[.int .i64 0, .int .i64 0, .int .i64 0, .int .i64 0, (.slice none 0 0), (.slice none 0 0), (.slice none 0 0)] 81 (0, 0))) ∧ A0s (w'.heap[gb133]? = some (.cells #[.int .i64 (wrap64 (1 + (wrap64 (Int.tmod (IntKind.u64.wrap (a0_0)) 3)))), .int .i64 (wrap64 (Int.tmod (IntKind.u64.wrap (a0_1)) 4)), .int .i64 (wrap64 (1 + (wrap64 (Int.tmod (IntKind.u64.wrap (a0_2)) 6)))), .int .i64 (wrap64 (1 + (wrap64 (Int.tmod (IntKind.u64.wrap (a0_3)) 8)))), (.slice Ao10 t130.length co10), u134005, u134006] 81 (0, 0))) ∧ A0s (Below w.heap.size w w'))
        case atStart => exact ⟨(0), (([] : List (S86))), (.slice none 0 0), (by first | rfl | (simp; done) | (simp [*]; done)), H', ⟨Nat.le_refl _⟩, ⟨by (with_reducible repeat (first | apply Kd.RA | apply Kd.RN | apply Kd.RD)); exact HO_134004.out⟩, ⟨by (with_reducible repeat (first | apply Kd.RA | apply Kd.RN | apply Kd.RD)); exact HO_134005.out⟩, ⟨by first | exact Kd.R_nil _ _ _ _ _ | exact Kd.N_nil _ _ _ _ _ | exact Kd.V_nil _ _ _ _ _ | exact Kd.Q_nil _ _ _ _ _ | exact Kd.S_nil _ _ _ _ _⟩, ⟨by (with_reducible repeat (first | apply kN | apply kD | apply kA)); exact BK128.out⟩, ⟨by (with_reducible repeat (first | apply kN | apply kD | apply kA)); exact BK129.out⟩, ⟨by (with_reducible repeat (first | apply kN | apply kD | apply kA)); exact BK133.out⟩, ⟨by repeat (first | (with_reducible first | exact HB.out | apply bA | apply bN | apply bD | refine bS ?_ GE128.out | refine bS ?_ GE129.out | refine bS ?_ GE133.out) | exact HB.out)⟩⟩
        case round =>
         clear H'
         try clear c1
         try clear p1
         try clear q1
         try clear hx1
         try clear c2
         try clear p2
         try clear c3
         try clear c4
         try clear p6
         try clear c7
         try clear p13
         try clear q13
         try clear hx13
         try clear c19
         try clear c19b0
         try clear c20
         try clear c21
         try clear c23
         try clear c24
         try clear c26
         try clear c27
         try clear c27b0
         try clear c28
         try clear c28b0
         try clear c29
         try clear c29b0
         try clear c29b1
         try clear c30
         try clear c36
         try clear c37
         try clear c40
         try clear c40b0
         try clear c40b1
         try clear c40b2
         try clear c41
         try clear c42
         try clear hcz22_0
         try clear hcz22_1
         try clear hcz22_2
         try clear hcz22_3
         try clear hcz22_4
         try clear hcz22_5
         try clear hcz22_6
         try clear hcz25_0
         try clear hcz25_1
         try clear hcz25_2
         try clear hcz25_3
         try clear hcz25_4
         try clear hcz25_5
         try clear hcz25_6
         try clear hcz38_0
         try clear hcz38_1
         try clear hcz38_2
         try clear hcz38_3
         try clear hcz38_4
         try clear hcz38_5
         try clear hcz38_6
         try clear hcz43_0
         try clear hcz43_1
         try clear hcz43_2
         try clear hcz43_3
         try clear hcz43_4
         try clear hcz43_5
         try clear hcz43_6
         try clear hcz47_0
         try clear hcz47_1
         try clear hcz47_2
         try clear hcz47_3
         try clear hcz47_4
         try clear hcz47_5
         try clear hcz47_6
         try clear hfz22_0
         try clear hfz22_1
         try clear hfz22_2
         try clear hfz22_3
         try clear hfz22_4
         try clear hfz22_5
         try clear hfz22_6
         try clear hfz25_0
         try clear hfz25_1
         try clear hfz25_2
         try clear hfz25_3
         try clear hfz25_4
         try clear hfz25_5
         try clear hfz25_6
         try clear hfz38_0
         try clear hfz38_1
         try clear hfz38_2
         try clear hfz38_3
         try clear hfz38_4
         try clear hfz38_5
         try clear hfz38_6
         try clear hfz43_0
         try clear hfz43_1
         try clear hfz43_2
         try clear hfz43_3
         try clear hfz43_4
         try clear hfz43_5
         try clear hfz43_6
         try clear hfz47_0
         try clear hfz47_1
         try clear hfz47_2
         try clear hfz47_3
         try clear hfz47_4
         try clear hfz47_5
         try clear hfz47_6
         try clear hx134_0
         try clear p1
         try clear p13
         try clear p134
         try clear p2
         try clear p6
         try clear q1
         try clear q13
         try clear q134
         obtain ⟨x5_4, x134006_4, u134006, rfl, HA, HK4, HO_134004, HO_134005, HO_134006, BK128, BK129, BK133, HB⟩ := hrel
         cases gk with
         | zero => exact absurd HA.out (by simp [stopgateref05_Fix.l1])
         | succ k4 =>
          have H := HA.out
          clear HA
          simp only [stopgateref05_Fix.l1] at H
          have HC48 := A0s.mk H
          clear H
          go_upto_region 9 with (fail)
          go_cut [81] (fun v81 wc => ∃ (kq : Nat) (x81_47 : Bool), v81 = .bool x81_47 ∧ A0s (stopgateref05_Fix.j4 kq x5_4 x81_47 a0_0 a0_1 a0_2 a0_3 l0_4 l0_5 l0_6 (wrap64 (1 + (wrap64 (Int.tmod (IntKind.u64.wrap (a0_0)) 3)))) (wrap64 (Int.tmod (IntKind.u64.wrap (a0_1)) 4)) (wrap64 (1 + (wrap64 (Int.tmod (IntKind.u64.wrap (a0_2)) 6)))) (wrap64 (1 + (wrap64 (Int.tmod (IntKind.u64.wrap (a0_3)) 8)))) t130 x134005_34 x134006_4 = some (r1, r2, r3, r4, r5, r6, r7)) ∧ A0s (kq ≤ k4) ∧ A0s (Kd.R k176 176 wc w.heap.size (fun _ => True) (.slice Ao10 t130.length co10) t130) ∧ A0s (Kd.R (Kd.int .i64) 3 wc w.heap.size (fun _ => True) u134005 x134005_34) ∧ A0s (Kd.R k86 86 wc w.heap.size (fun _ => True) u134006 x134006_4) ∧ A0s (wc.heap[gb128]? = some (.cells #[.int .i64 a0_0, .int .i64 a0_1, .int .i64 a0_2, .int .i64 a0_3, (.slice A0_4 l0_4.length c0_4), (.slice A0_5 l0_5.length c0_5), (.slice A0_6 l0_6.length c0_6)] 81 (0, 0))) ∧ A0s (wc.heap[gb129]? = some (.cells #[.int .i64 0, .int .i64 0, .int .i64 0, .int .i64 0, (.slice none 0 0), (.slice none 0 0), (.slice none 0 0)] 81 (0, 0))) ∧ A0s (wc.heap[gb133]? = some (.cells #[.int .i64 (wrap64 (1 + (wrap64 (Int.tmod (IntKind.u64.wrap (a0_0)) 3)))), .int .i64 (wrap64 (Int.tmod (IntKind.u64.wrap (a0_1)) 4)), .int .i64 (wrap64 (1 + (wrap64 (Int.tmod (IntKind.u64.wrap (a0_2)) 6)))), .int .i64 (wrap64 (1 + (wrap64 (Int.tmod (IntKind.u64.wrap (a0_3)) 8)))), (.slice Ao10 t130.length co10), u134005, u134006] 81 (0, 0))) ∧ A0s (Below w.heap.size w wc))
          case first =>
           have H := HC48.out
           clear HC48
           by_cases c49 : x5_4 < (l0_6.length : Int)
           ·rw [if_pos c49] at H
            have c49b0 : decide (x5_4 < (l0_6.length : Int)) = true := decide_eq_true c49
            clear c49
            (first | rw [c49b0] | (simp only [i64_w, i32_w]; rw [c49b0]) | skip)
            have H' := A0s.mk H
            clear H
            have hnb50 := NB128_129.out
            have hnc50 := NB129_128.out
            have hnb51 := NB128_133.out
            have hnc51 := NB133_128.out
            obtain ⟨hcz52_0, hcz52_1, hcz52_2, hcz52_3, hcz52_4, hcz52_5, hcz52_6, hfz52_0, hfz52_1, hfz52_2, hfz52_3, hfz52_4, hfz52_5, hfz52_6⟩ := blk_all7 BK128.out
            go_wp2
            go_meet
            case rel => exact ⟨_, (decide (x5_4 < 3)), (by first | rfl | (simp; done) | (simp [*]; done)), H', ⟨by have := HK1.out; have := HJ17.out; have := HJ34.out; have := HK4.out; first | omega | exact Nat.le_refl _⟩, ⟨by (with_reducible repeat (first | apply Kd.RA | apply Kd.RN | apply Kd.RD)); exact HO_134004.out⟩, ⟨by (with_reducible repeat (first | apply Kd.RA | apply Kd.RN | apply Kd.RD)); exact HO_134005.out⟩, ⟨by (with_reducible repeat (first | apply Kd.RA | apply Kd.RN | apply Kd.RD)); exact HO_134006.out⟩, ⟨by (with_reducible repeat (first | apply kN | apply kD | apply kA)); exact BK128.out⟩, ⟨by (with_reducible repeat (first | apply kN | apply kD | apply kA)); exact BK129.out⟩, ⟨by (with_reducible repeat (first | apply kN | apply kD | apply kA)); exact BK133.out⟩, ⟨by repeat (first | (with_reducible first | exact HB.out | apply bA | apply bN | apply bD | refine bS ?_ GE128.out | refine bS ?_ GE129.out | refine bS ?_ GE133.out) | exact HB.out)⟩⟩
           ·rw [if_neg c49] at H
            have c49b0 : decide (x5_4 < (l0_6.length : Int)) = false := decide_eq_false c49
            clear c49
            (first | rw [c49b0] | (simp only [i64_w, i32_w]; rw [c49b0]) | skip)
            have H' := A0s.mk H
            clear H
            have hnb53 := NB128_129.out
            have hnc53 := NB129_128.out
            have hnb54 := NB128_133.out
            have hnc54 := NB133_128.out
            obtain ⟨hcz55_0, hcz55_1, hcz55_2, hcz55_3, hcz55_4, hcz55_5, hcz55_6, hfz55_0, hfz55_1, hfz55_2, hfz55_3, hfz55_4, hfz55_5, hfz55_6⟩ := blk_all7 BK128.out
            go_wp2
            go_meet
            case rel => exact ⟨_, (false), (by first | rfl | (simp; done) | (simp [*]; done)), H', ⟨by have := HK1.out; have := HJ17.out; have := HJ34.out; have := HK4.out; first | omega | exact Nat.le_refl _⟩, ⟨by (with_reducible repeat (first | apply Kd.RA | apply Kd.RN | apply Kd.RD)); exact HO_134004.out⟩, ⟨by (with_reducible repeat (first | apply Kd.RA | apply Kd.RN | apply Kd.RD)); exact HO_134005.out⟩, ⟨by (with_reducible repeat (first | apply Kd.RA | apply Kd.RN | apply Kd.RD)); exact HO_134006.out⟩, ⟨by (with_reducible repeat (first | apply kN | apply kD | apply kA)); exact BK128.out⟩, ⟨by (with_reducible repeat (first | apply kN | apply kD | apply kA)); exact BK129.out⟩, ⟨by (with_reducible repeat (first | apply kN | apply kD | apply kA)); exact BK133.out⟩, ⟨by repeat (first | (with_reducible first | exact HB.out | apply bA | apply bN | apply bD | refine bS ?_ GE128.out | refine bS ?_ GE129.out | refine bS ?_ GE133.out) | exact HB.out)⟩⟩
          case rest =>
           clear HC48
           try clear c1
           try clear p1
           try clear q1
           try clear hx1
           try clear c2
           try clear p2
           try clear c3
           try clear c4
           try clear c5
           try clear p6
           try clear c7
           try clear p13
           try clear q13
           try clear hx13
           try clear c19
           try clear c19b0
           try clear c20
           try clear c21
           try clear c23
           try clear c24
           try clear c26
           try clear c27
           try clear c27b0
           try clear c28
           try clear c28b0
           try clear c29
           try clear c29b0
           try clear c29b1
           try clear c30
           try clear c36
           try clear c37
           try clear c40
           try clear c40b0
           try clear c40b1
           try clear c40b2
           try clear c41
           try clear c42
           try clear c49
           try clear c49b0
           try clear c50
           try clear c51
           try clear c53
           try clear c54
           try clear hcz22_0
           try clear hcz22_1
           try clear hcz22_2
           try clear hcz22_3
           try clear hcz22_4
           try clear hcz22_5
           try clear hcz22_6
           try clear hcz25_0
           try clear hcz25_1
           try clear hcz25_2
           try clear hcz25_3
           try clear hcz25_4
           try clear hcz25_5
           try clear hcz25_6
           try clear hcz38_0
           try clear hcz38_1
           try clear hcz38_2
           try clear hcz38_3
           try clear hcz38_4
           try clear hcz38_5
           try clear hcz38_6
           try clear hcz43_0
           try clear hcz43_1
           try clear hcz43_2
           try clear hcz43_3
           try clear hcz43_4
           try clear hcz43_5
           try clear hcz43_6
           try clear hcz47_0
           try clear hcz47_1
           try clear hcz47_2
           try clear hcz47_3
           try clear hcz47_4
           try clear hcz47_5
           try clear hcz47_6
           try clear hcz52_0
           try clear hcz52_1
           try clear hcz52_2
           try clear hcz52_3
           try clear hcz52_4
           try clear hcz52_5
           try clear hcz52_6
           try clear hcz55_0
           try clear hcz55_1
           try clear hcz55_2
           try clear hcz55_3
           try clear hcz55_4
           try clear hcz55_5
           try clear hcz55_6
           try clear hfz22_0
           try clear hfz22_1
           try clear hfz22_2
           try clear hfz22_3
           try clear hfz22_4
           try clear hfz22_5
           try clear hfz22_6
           try clear hfz25_0
           try clear hfz25_1
           try clear hfz25_2
           try clear hfz25_3
           try clear hfz25_4
           try clear hfz25_5
           try clear hfz25_6
           try clear hfz38_0
           try clear hfz38_1
           try clear hfz38_2
           try clear hfz38_3
           try clear hfz38_4
           try clear hfz38_5
           try clear hfz38_6
           try clear hfz43_0
           try clear hfz43_1
           try clear hfz43_2
           try clear hfz43_3
           try clear hfz43_4
           try clear hfz43_5
           try clear hfz43_6
           try clear hfz47_0
           try clear hfz47_1
           try clear hfz47_2
           try clear hfz47_3
           try clear hfz47_4
           try clear hfz47_5
           try clear hfz47_6
           try clear hfz52_0
           try clear hfz52_1
           try clear hfz52_2
           try clear hfz52_3
           try clear hfz52_4
           try clear hfz52_5
           try clear hfz52_6
           try clear hfz55_0
           try clear hfz55_1
           try clear hfz55_2
           try clear hfz55_3
           try clear hfz55_4
           try clear hfz55_5
           try clear hfz55_6
           try clear hx134_0
           try clear p1
           try clear p13
           try clear p134
           try clear p2
           try clear p6
           try clear q1
           try clear q13
           try clear q134
           obtain ⟨kq, x81_47, rfl, HA, HJ47, HO_134004, HO_134005, HO_134006, BK128, BK129, BK133, HB⟩ := hcut
           cases kq with
           | zero => exact absurd HA.out (by simp [stopgateref05_Fix.j4])
           | succ kj47 =>
            have H := HA.out
            clear HA
            simp only [stopgateref05_Fix.j4] at H
            by_cases c56 : x81_47 = true
            ·subst c56
             have H1 : (if 0 ≤ x5_4 then (if x5_4 < (l0_6.length : Int) then (if ((rd_T86 l0_6 x5_4).f2) < 0 then (stopgateref05_Fix.j5 kj47 x5_4 a0_0 a0_1 a0_2 a0_3 l0_4 l0_5 l0_6 (wrap64 (1 + (wrap64 (Int.tmod (IntKind.u64.wrap (a0_0)) 3)))) (wrap64 (Int.tmod (IntKind.u64.wrap (a0_1)) 4)) (wrap64 (1 + (wrap64 (Int.tmod (IntKind.u64.wrap (a0_2)) 6)))) (wrap64 (1 + (wrap64 (Int.tmod (IntKind.u64.wrap (a0_3)) 8)))) t130 x134005_34 x134006_4 (wrap64 (1 + (wrap64 (Int.tmod (IntKind.u64.wrap ((rd_T86 l0_6 x5_4).f0)) 1099511627776)))) (wrap64 (1 + (wrap64 (Int.tmod (IntKind.u64.wrap ((rd_T86 l0_6 x5_4).f1)) 1099511627776)))) 9223372036854775807 ((rd_T86 l0_6 x5_4).f3)) else (stopgateref05_Fix.j5 kj47 x5_4 a0_0 a0_1 a0_2 a0_3 l0_4 l0_5 l0_6 (wrap64 (1 + (wrap64 (Int.tmod (IntKind.u64.wrap (a0_0)) 3)))) (wrap64 (Int.tmod (IntKind.u64.wrap (a0_1)) 4)) (wrap64 (1 + (wrap64 (Int.tmod (IntKind.u64.wrap (a0_2)) 6)))) (wrap64 (1 + (wrap64 (Int.tmod (IntKind.u64.wrap (a0_3)) 8)))) t130 x134005_34 x134006_4 (wrap64 (1 + (wrap64 (Int.tmod (IntKind.u64.wrap ((rd_T86 l0_6 x5_4).f0)) 1099511627776)))) (wrap64 (1 + (wrap64 (Int.tmod (IntKind.u64.wrap ((rd_T86 l0_6 x5_4).f1)) 1099511627776)))) ((rd_T86 l0_6 x5_4).f2) ((rd_T86 l0_6 x5_4).f3))) else (none)) else (none)) = some (r1, r2, r3, r4, r5, r6, r7) := by rw [if_pos rfl] at H; exact H
             clear H
             have H := H1
             clear H1
             by_cases c57 : 0 ≤ x5_4
             ·rw [if_pos c57] at H
              have c57b0 : decide (0 ≤ x5_4) = true := decide_eq_true c57
              clear c57
              by_cases c58 : x5_4 < (l0_6.length : Int)
              ·rw [if_pos c58] at H
               have c58b0 : decide (x5_4 < (l0_6.length : Int)) = true := decide_eq_true c58
               clear c58
               have HC59 := A0s.mk H
               clear H
               have hnb60 := NB128_129.out
               have hnc60 := NB129_128.out
               have hnb61 := NB128_133.out
               have hnc61 := NB133_128.out
               obtain ⟨hcz62_0, hcz62_1, hcz62_2, hcz62_3, hcz62_4, hcz62_5, hcz62_6, hfz62_0, hfz62_1, hfz62_2, hfz62_3, hfz62_4, hfz62_5, hfz62_6⟩ := blk_all7 BK128.out
               have p141 : 0 ≤ (x5_4 : Int) := of_decide_eq_true (by first | (with_reducible assumption) | assumption)
               have q141 : x5_4 < (l0_6.length : Int) := of_decide_eq_true (by first | (with_reducible assumption) | assumption)
               obtain ⟨ad141, e141, hx141_0, hx141_1, hx141_2, hx141_3⟩ := at_T86 HR0_6.out x5_4 p141 q141
               cases e141
               replace hx141_0 := (HB.out.cell (World.block_lt_of_cell? w _ hx141_0)).trans hx141_0
               replace hx141_1 := (HB.out.cell (World.block_lt_of_cell? w _ hx141_1)).trans hx141_1
               replace hx141_2 := (HB.out.cell (World.block_lt_of_cell? w _ hx141_2)).trans hx141_2
               replace hx141_3 := (HB.out.cell (World.block_lt_of_cell? w _ hx141_3)).trans hx141_3
               replace p141 := eq_true p141
               replace q141 := eq_true q141
               go_upto_if 108 with (first | ((with_reducible refine gate_dst (N := 6) rfl ?_); refine box_event ?hg (N := 6) ?hd (cs := #[.int .i64 0, .int .i64 0, .int .i64 0, .float .f64 0]) (t := 86) ?hr ?_; (case hd => rfl); (case hg => rfl); (case hr => first | (go_simp; done) | (go_simp; rfl)); intro gb142 hg w63 hbox hb; have n0_ := A0s.mk (Kd.R_below (by (with_reducible repeat (first | apply Kd.RA | apply Kd.RN | apply Kd.RD)); exact HO_134004.out) hb); have n1_ := A0s.mk (Kd.R_below (by (with_reducible repeat (first | apply Kd.RA | apply Kd.RN | apply Kd.RD)); exact HO_134005.out) hb); have n2_ := A0s.mk (Kd.R_below (Kd.R_elderB (by (with_reducible repeat (first | apply Kd.RA | apply Kd.RN | apply Kd.RD)); exact HO_134006.out) gb142 (Nat.le_of_eq hg.symm)) hb); have n3_ := A0s.mk (blk_below (g := gb128) (o := .cells #[.int .i64 a0_0, .int .i64 a0_1, .int .i64 a0_2, .int .i64 a0_3, .slice A0_4 l0_4.length c0_4, .slice A0_5 l0_5.length c0_5, .slice (some ad141) l0_6.length c0_6] 81 (0, 0)) (by (with_reducible repeat (first | apply kN | apply kD | apply kA)); exact BK128.out) hb); have n4_ := A0s.mk (blk_below (g := gb129) (o := .cells #[.int .i64 0, .int .i64 0, .int .i64 0, .int .i64 0, .slice none 0 0, .slice none 0 0, .slice none 0 0] 81 (0, 0)) (by (with_reducible repeat (first | apply kN | apply kD | apply kA)); exact BK129.out) hb); have n5_ := A0s.mk (blk_below (g := gb133) (o := .cells #[.int .i64 (wrap64 (1 + (wrap64 (Int.tmod (IntKind.u64.wrap (a0_0)) 3)))), .int .i64 (wrap64 (Int.tmod (IntKind.u64.wrap (a0_1)) 4)), .int .i64 (wrap64 (1 + (wrap64 (Int.tmod (IntKind.u64.wrap (a0_2)) 6)))), .int .i64 (wrap64 (1 + (wrap64 (Int.tmod (IntKind.u64.wrap (a0_3)) 8)))), .slice Ao10 t130.length co10, u134005, u134006] 81 (0, 0)) (by (with_reducible repeat (first | apply kN | apply kD | apply kA)); exact BK133.out) hb); have n6_ := A0s.mk (below_step (by repeat (first | (with_reducible first | exact HB.out | apply bA | apply bN | apply bD | refine bS ?_ GE128.out | refine bS ?_ GE129.out | refine bS ?_ GE133.out) | exact HB.out)) hb); have n7_ := A0s.mk (hbox); have n8_ := A0s.mk ((by rw [hg]; exact (below_size (by repeat (first | (with_reducible first | exact HB.out | apply bA | apply bN | apply bD | refine bS ?_ GE128.out | refine bS ?_ GE129.out | refine bS ?_ GE133.out) | exact HB.out))) : w.heap.size ≤ gb142)); have n9_ := A0s.mk ((by rw [hg]; exact (below_size (by repeat (first | (with_reducible first | exact HB.out | apply bA | apply bN | apply bD | refine bS ?_ GE128.out | refine bS ?_ GE129.out | refine bS ?_ GE133.out) | exact HB.out))) : w.heap.size ≤ gb142)); have n10_ := A0s.mk ((by rw [hg]; exact Nat.ne_of_lt (blk_lt (g := gb128) (o := .cells #[.int .i64 a0_0, .int .i64 a0_1, .int .i64 a0_2, .int .i64 a0_3, .slice A0_4 l0_4.length c0_4, .slice A0_5 l0_5.length c0_5, .slice (some ad141) l0_6.length c0_6] 81 (0, 0)) (by (with_reducible repeat (first | apply kN | apply kD | apply kA)); exact BK128.out)) : gb128 ≠ gb142)); have n11_ := A0s.mk ((by rw [hg]; exact Nat.ne_of_gt (blk_lt (g := gb128) (o := .cells #[.int .i64 a0_0, .int .i64 a0_1, .int .i64 a0_2, .int .i64 a0_3, .slice A0_4 l0_4.length c0_4, .slice A0_5 l0_5.length c0_5, .slice (some ad141) l0_6.length c0_6] 81 (0, 0)) (by (with_reducible repeat (first | apply kN | apply kD | apply kA)); exact BK128.out)) : gb142 ≠ gb128)); have n12_ := A0s.mk ((by rw [hg]; exact Nat.ne_of_lt (blk_lt (g := gb129) (o := .cells #[.int .i64 0, .int .i64 0, .int .i64 0, .int .i64 0, .slice none 0 0, .slice none 0 0, .slice none 0 0] 81 (0, 0)) (by (with_reducible repeat (first | apply kN | apply kD | apply kA)); exact BK129.out)) : gb129 ≠ gb142)); have n13_ := A0s.mk ((by rw [hg]; exact Nat.ne_of_gt (blk_lt (g := gb129) (o := .cells #[.int .i64 0, .int .i64 0, .int .i64 0, .int .i64 0, .slice none 0 0, .slice none 0 0, .slice none 0 0] 81 (0, 0)) (by (with_reducible repeat (first | apply kN | apply kD | apply kA)); exact BK129.out)) : gb142 ≠ gb129)); have n14_ := A0s.mk ((by rw [hg]; exact Nat.ne_of_lt (blk_lt (g := gb133) (o := .cells #[.int .i64 (wrap64 (1 + (wrap64 (Int.tmod (IntKind.u64.wrap (a0_0)) 3)))), .int .i64 (wrap64 (Int.tmod (IntKind.u64.wrap (a0_1)) 4)), .int .i64 (wrap64 (1 + (wrap64 (Int.tmod (IntKind.u64.wrap (a0_2)) 6)))), .int .i64 (wrap64 (1 + (wrap64 (Int.tmod (IntKind.u64.wrap (a0_3)) 8)))), .slice Ao10 t130.length co10, u134005, u134006] 81 (0, 0)) (by (with_reducible repeat (first | apply kN | apply kD | apply kA)); exact BK133.out)) : gb133 ≠ gb142)); have n15_ := A0s.mk ((by rw [hg]; exact Nat.ne_of_gt (blk_lt (g := gb133) (o := .cells #[.int .i64 (wrap64 (1 + (wrap64 (Int.tmod (IntKind.u64.wrap (a0_0)) 3)))), .int .i64 (wrap64 (Int.tmod (IntKind.u64.wrap (a0_1)) 4)), .int .i64 (wrap64 (1 + (wrap64 (Int.tmod (IntKind.u64.wrap (a0_2)) 6)))), .int .i64 (wrap64 (1 + (wrap64 (Int.tmod (IntKind.u64.wrap (a0_3)) 8)))), .slice Ao10 t130.length co10, u134005, u134006] 81 (0, 0)) (by (with_reducible repeat (first | apply kN | apply kD | apply kA)); exact BK133.out)) : gb142 ≠ gb133)); clear HO_134004; clear HO_134005; clear HO_134006; clear BK128; clear BK129; clear BK133; clear HB; have HO_134004 := n0_; have HO_134005 := n1_; have HO_134006 := n2_; have BK128 := n3_; have BK129 := n4_; have BK133 := n5_; have HB := n6_; have BK142 := n7_; have GW142 := n8_; have GE142 := n9_; have NB128_142 := n10_; have NB142_128 := n11_; have NB129_142 := n12_; have NB142_129 := n13_; have NB133_142 := n14_; have NB142_133 := n15_; clear n0_ n1_ n2_ n3_ n4_ n5_ n6_ n7_ n8_ n9_ n10_ n11_ n12_ n13_ n14_ n15_; clear hb hbox hg; have hnb64 := NB142_128.out; have hnc64 := NB128_142.out; have hnb65 := NB142_129.out; have hnc65 := NB129_142.out; have hnb66 := NB142_133.out; have hnc66 := NB133_142.out; obtain ⟨hcz67_0, hcz67_1, hcz67_2, hcz67_3, hfz67_0, hfz67_1, hfz67_2, hfz67_3⟩ := blk_all4 BK142.out) | ((with_reducible refine gate_dst (N := 7) rfl ?_); refine box_event ?hg (N := 7) ?hd (cs := #[.int .i64 0, .int .i64 0, .int .i64 0, .float .f64 0]) (t := 86) ?hr ?_; (case hd => rfl); (case hg => rfl); (case hr => first | (go_simp; done) | (go_simp; rfl)); intro gb143 hg w68 hbox hb; have n0_ := A0s.mk (Kd.R_below (by (with_reducible repeat (first | apply Kd.RA | apply Kd.RN | apply Kd.RD)); exact (Kd.R_mono (Kd.R_far (p := ⟨gb142, 3, none⟩) (Kd.R_far (p := ⟨gb142, 2, none⟩) (Kd.R_far (p := ⟨gb142, 1, none⟩) (Kd.R_far (p := ⟨gb142, 0, none⟩) (Kd.R_types HO_134004.out BK142.out (by decide)) (fun _ hk => hk.2) (.int .i64 ((rd_T86 l0_6 x5_4).f0))) (fun _ hk => hk.2) (.int .i64 ((rd_T86 l0_6 x5_4).f1))) (fun _ hk => hk.2) (.int .i64 ((rd_T86 l0_6 x5_4).f2))) (fun _ hk => hk.2) (.float .f64 ((rd_T86 l0_6 x5_4).f3))) (fun _ h_ => h_.1))) hb); have n1_ := A0s.mk (Kd.R_below (by (with_reducible repeat (first | apply Kd.RA | apply Kd.RN | apply Kd.RD)); exact (Kd.R_mono (Kd.R_far (p := ⟨gb142, 3, none⟩) (Kd.R_far (p := ⟨gb142, 2, none⟩) (Kd.R_far (p := ⟨gb142, 1, none⟩) (Kd.R_far (p := ⟨gb142, 0, none⟩) (Kd.R_types HO_134005.out BK142.out (by decide)) (fun _ hk => hk.2) (.int .i64 ((rd_T86 l0_6 x5_4).f0))) (fun _ hk => hk.2) (.int .i64 ((rd_T86 l0_6 x5_4).f1))) (fun _ hk => hk.2) (.int .i64 ((rd_T86 l0_6 x5_4).f2))) (fun _ hk => hk.2) (.float .f64 ((rd_T86 l0_6 x5_4).f3))) (fun _ h_ => h_.1))) hb); have n2_ := A0s.mk (Kd.R_below (Kd.R_elderB (by (with_reducible repeat (first | apply Kd.RA | apply Kd.RN | apply Kd.RD)); exact (Kd.R_mono (Kd.R_far (p := ⟨gb142, 3, none⟩) (Kd.R_far (p := ⟨gb142, 2, none⟩) (Kd.R_far (p := ⟨gb142, 1, none⟩) (Kd.R_far (p := ⟨gb142, 0, none⟩) (Kd.R_mono HO_134006.out (fun k_ hk => (⟨hk, hk.2⟩ : _ ∧ k_ ≠ gb142))) (fun _ hk => hk.2) (.int .i64 ((rd_T86 l0_6 x5_4).f0))) (fun _ hk => hk.2) (.int .i64 ((rd_T86 l0_6 x5_4).f1))) (fun _ hk => hk.2) (.int .i64 ((rd_T86 l0_6 x5_4).f2))) (fun _ hk => hk.2) (.float .f64 ((rd_T86 l0_6 x5_4).f3))) (fun _ h_ => h_.1))) gb143 (Nat.le_of_eq hg.symm)) hb); have n3_ := A0s.mk (blk_below (g := gb128) (o := .cells #[.int .i64 a0_0, .int .i64 a0_1, .int .i64 a0_2, .int .i64 a0_3, .slice A0_4 l0_4.length c0_4, .slice A0_5 l0_5.length c0_5, .slice (some ad141) l0_6.length c0_6] 81 (0, 0)) (by (with_reducible repeat (first | apply kN | apply kD | apply kA)); refine blk_far ?_ NB128_142.out _; (with_reducible repeat (first | apply kN | apply kD | apply kA)); refine blk_far ?_ NB128_142.out _; (with_reducible repeat (first | apply kN | apply kD | apply kA)); refine blk_far ?_ NB128_142.out _; (with_reducible repeat (first | apply kN | apply kD | apply kA)); refine blk_far ?_ NB128_142.out _; (with_reducible repeat (first | apply kN | apply kD | apply kA)); exact BK128.out) hb); have n4_ := A0s.mk (blk_below (g := gb129) (o := .cells #[.int .i64 0, .int .i64 0, .int .i64 0, .int .i64 0, .slice none 0 0, .slice none 0 0, .slice none 0 0] 81 (0, 0)) (by (with_reducible repeat (first | apply kN | apply kD | apply kA)); refine blk_far ?_ NB129_142.out _; (with_reducible repeat (first | apply kN | apply kD | apply kA)); refine blk_far ?_ NB129_142.out _; (with_reducible repeat (first | apply kN | apply kD | apply kA)); refine blk_far ?_ NB129_142.out _; (with_reducible repeat (first | apply kN | apply kD | apply kA)); refine blk_far ?_ NB129_142.out _; (with_reducible repeat (first | apply kN | apply kD | apply kA)); exact BK129.out) hb); have n5_ := A0s.mk (blk_below (g := gb133) (o := .cells #[.int .i64 (wrap64 (1 + (wrap64 (Int.tmod (IntKind.u64.wrap (a0_0)) 3)))), .int .i64 (wrap64 (Int.tmod (IntKind.u64.wrap (a0_1)) 4)), .int .i64 (wrap64 (1 + (wrap64 (Int.tmod (IntKind.u64.wrap (a0_2)) 6)))), .int .i64 (wrap64 (1 + (wrap64 (Int.tmod (IntKind.u64.wrap (a0_3)) 8)))), .slice Ao10 t130.length co10, u134005, u134006] 81 (0, 0)) (by (with_reducible repeat (first | apply kN | apply kD | apply kA)); refine blk_far ?_ NB133_142.out _; (with_reducible repeat (first | apply kN | apply kD | apply kA)); refine blk_far ?_ NB133_142.out _; (with_reducible repeat (first | apply kN | apply kD | apply kA)); refine blk_far ?_ NB133_142.out _; (with_reducible repeat (first | apply kN | apply kD | apply kA)); refine blk_far ?_ NB133_142.out _; (with_reducible repeat (first | apply kN | apply kD | apply kA)); exact BK133.out) hb); have n6_ := A0s.mk (blk_below (g := gb142) (o := .cells #[.int .i64 ((rd_T86 l0_6 x5_4).f0), .int .i64 ((rd_T86 l0_6 x5_4).f1), .int .i64 ((rd_T86 l0_6 x5_4).f2), .float .f64 ((rd_T86 l0_6 x5_4).f3)] 86 (0, 0)) (by (with_reducible repeat (first | apply kN | apply kD | apply kA)); refine blk_put (cs := #[.int .i64 ((rd_T86 l0_6 x5_4).f0), .int .i64 ((rd_T86 l0_6 x5_4).f1), .int .i64 ((rd_T86 l0_6 x5_4).f2), .float .f64 0]) ?_ 3 _ rfl; (with_reducible repeat (first | apply kN | apply kD | apply kA)); refine blk_put (cs := #[.int .i64 ((rd_T86 l0_6 x5_4).f0), .int .i64 ((rd_T86 l0_6 x5_4).f1), .int .i64 0, .float .f64 0]) ?_ 2 _ rfl; (with_reducible repeat (first | apply kN | apply kD | apply kA)); refine blk_put (cs := #[.int .i64 ((rd_T86 l0_6 x5_4).f0), .int .i64 0, .int .i64 0, .float .f64 0]) ?_ 1 _ rfl; (with_reducible repeat (first | apply kN | apply kD | apply kA)); refine blk_put (cs := #[.int .i64 0, .int .i64 0, .int .i64 0, .float .f64 0]) ?_ 0 _ rfl; (with_reducible repeat (first | apply kN | apply kD | apply kA)); exact BK142.out) hb); have n7_ := A0s.mk (below_step (by repeat (first | (with_reducible first | exact HB.out | apply bA | apply bN | apply bD | refine bS ?_ GE128.out | refine bS ?_ GE129.out | refine bS ?_ GE133.out | refine bS ?_ GE142.out) | exact HB.out)) hb); have n8_ := A0s.mk (hbox); have n9_ := A0s.mk ((by rw [hg]; exact (below_size (by repeat (first | (with_reducible first | exact HB.out | apply bA | apply bN | apply bD | refine bS ?_ GE128.out | refine bS ?_ GE129.out | refine bS ?_ GE133.out | refine bS ?_ GE142.out) | exact HB.out))) : w.heap.size ≤ gb143)); have n10_ := A0s.mk ((by rw [hg]; exact (below_size (by repeat (first | (with_reducible first | exact HB.out | apply bA | apply bN | apply bD | refine bS ?_ GE128.out | refine bS ?_ GE129.out | refine bS ?_ GE133.out | refine bS ?_ GE142.out) | exact HB.out))) : w.heap.size ≤ gb143)); have n11_ := A0s.mk ((by rw [hg]; exact Nat.ne_of_lt (blk_lt (g := gb128) (o := .cells #[.int .i64 a0_0, .int .i64 a0_1, .int .i64 a0_2, .int .i64 a0_3, .slice A0_4 l0_4.length c0_4, .slice A0_5 l0_5.length c0_5, .slice (some ad141) l0_6.length c0_6] 81 (0, 0)) (by (with_reducible repeat (first | apply kN | apply kD | apply kA)); refine blk_far ?_ NB128_142.out _; (with_reducible repeat (first | apply kN | apply kD | apply kA)); refine blk_far ?_ NB128_142.out _; (with_reducible repeat (first | apply kN | apply kD | apply kA)); refine blk_far ?_ NB128_142.out _; (with_reducible repeat (first | apply kN | apply kD | apply kA)); refine blk_far ?_ NB128_142.out _; (with_reducible repeat (first | apply kN | apply kD | apply kA)); exact BK128.out)) : gb128 ≠ gb143)); have n12_ := A0s.mk ((by rw [hg]; exact Nat.ne_of_gt (blk_lt (g := gb128) (o := .cells #[.int .i64 a0_0, .int .i64 a0_1, .int .i64 a0_2, .int .i64 a0_3, .slice A0_4 l0_4.length c0_4, .slice A0_5 l0_5.length c0_5, .slice (some ad141) l0_6.length c0_6] 81 (0, 0)) (by (with_reducible repeat (first | apply kN | apply kD | apply kA)); refine blk_far ?_ NB128_142.out _; (with_reducible repeat (first | apply kN | apply kD | apply kA)); refine blk_far ?_ NB128_142.out _; (with_reducible repeat (first | apply kN | apply kD | apply kA)); refine blk_far ?_ NB128_142.out _; (with_reducible repeat (first | apply kN | apply kD | apply kA)); refine blk_far ?_ NB128_142.out _; (with_reducible repeat (first | apply kN | apply kD | apply kA)); exact BK128.out)) : gb143 ≠ gb128)); have n13_ := A0s.mk ((by rw [hg]; exact Nat.ne_of_lt (blk_lt (g := gb129) (o := .cells #[.int .i64 0, .int .i64 0, .int .i64 0, .int .i64 0, .slice none 0 0, .slice none 0 0, .slice none 0 0] 81 (0, 0)) (by (with_reducible repeat (first | apply kN | apply kD | apply kA)); refine blk_far ?_ NB129_142.out _; (with_reducible repeat (first | apply kN | apply kD | apply kA)); refine blk_far ?_ NB129_142.out _; (with_reducible repeat (first | apply kN | apply kD | apply kA)); refine blk_far ?_ NB129_142.out _; (with_reducible repeat (first | apply kN | apply kD | apply kA)); refine blk_far ?_ NB129_142.out _; (with_reducible repeat (first | apply kN | apply kD | apply kA)); exact BK129.out)) : gb129 ≠ gb143)); have n14_ := A0s.mk ((by rw [hg]; exact Nat.ne_of_gt (blk_lt (g := gb129) (o := .cells #[.int .i64 0, .int .i64 0, .int .i64 0, .int .i64 0, .slice none 0 0, .slice none 0 0, .slice none 0 0] 81 (0, 0)) (by (with_reducible repeat (first | apply kN | apply kD | apply kA)); refine blk_far ?_ NB129_142.out _; (with_reducible repeat (first | apply kN | apply kD | apply kA)); refine blk_far ?_ NB129_142.out _; (with_reducible repeat (first | apply kN | apply kD | apply kA)); refine blk_far ?_ NB129_142.out _; (with_reducible repeat (first | apply kN | apply kD | apply kA)); refine blk_far ?_ NB129_142.out _; (with_reducible repeat (first | apply kN | apply kD | apply kA)); exact BK129.out)) : gb143 ≠ gb129)); have n15_ := A0s.mk ((by rw [hg]; exact Nat.ne_of_lt (blk_lt (g := gb133) (o := .cells #[.int .i64 (wrap64 (1 + (wrap64 (Int.tmod (IntKind.u64.wrap (a0_0)) 3)))), .int .i64 (wrap64 (Int.tmod (IntKind.u64.wrap (a0_1)) 4)), .int .i64 (wrap64 (1 + (wrap64 (Int.tmod (IntKind.u64.wrap (a0_2)) 6)))), .int .i64 (wrap64 (1 + (wrap64 (Int.tmod (IntKind.u64.wrap (a0_3)) 8)))), .slice Ao10 t130.length co10, u134005, u134006] 81 (0, 0)) (by (with_reducible repeat (first | apply kN | apply kD | apply kA)); refine blk_far ?_ NB133_142.out _; (with_reducible repeat (first | apply kN | apply kD | apply kA)); refine blk_far ?_ NB133_142.out _; (with_reducible repeat (first | apply kN | apply kD | apply kA)); refine blk_far ?_ NB133_142.out _; (with_reducible repeat (first | apply kN | apply kD | apply kA)); refine blk_far ?_ NB133_142.out _; (with_reducible repeat (first | apply kN | apply kD | apply kA)); exact BK133.out)) : gb133 ≠ gb143)); have n16_ := A0s.mk ((by rw [hg]; exact Nat.ne_of_gt (blk_lt (g := gb133) (o := .cells #[.int .i64 (wrap64 (1 + (wrap64 (Int.tmod (IntKind.u64.wrap (a0_0)) 3)))), .int .i64 (wrap64 (Int.tmod (IntKind.u64.wrap (a0_1)) 4)), .int .i64 (wrap64 (1 + (wrap64 (Int.tmod (IntKind.u64.wrap (a0_2)) 6)))), .int .i64 (wrap64 (1 + (wrap64 (Int.tmod (IntKind.u64.wrap (a0_3)) 8)))), .slice Ao10 t130.length co10, u134005, u134006] 81 (0, 0)) (by (with_reducible repeat (first | apply kN | apply kD | apply kA)); refine blk_far ?_ NB133_142.out _; (with_reducible repeat (first | apply kN | apply kD | apply kA)); refine blk_far ?_ NB133_142.out _; (with_reducible repeat (first | apply kN | apply kD | apply kA)); refine blk_far ?_ NB133_142.out _; (with_reducible repeat (first | apply kN | apply kD | apply kA)); refine blk_far ?_ NB133_142.out _; (with_reducible repeat (first | apply kN | apply kD | apply kA)); exact BK133.out)) : gb143 ≠ gb133)); have n17_ := A0s.mk ((by rw [hg]; exact Nat.ne_of_lt (blk_lt (g := gb142) (o := .cells #[.int .i64 ((rd_T86 l0_6 x5_4).f0), .int .i64 ((rd_T86 l0_6 x5_4).f1), .int .i64 ((rd_T86 l0_6 x5_4).f2), .float .f64 ((rd_T86 l0_6 x5_4).f3)] 86 (0, 0)) (by (with_reducible repeat (first | apply kN | apply kD | apply kA)); refine blk_put (cs := #[.int .i64 ((rd_T86 l0_6 x5_4).f0), .int .i64 ((rd_T86 l0_6 x5_4).f1), .int .i64 ((rd_T86 l0_6 x5_4).f2), .float .f64 0]) ?_ 3 _ rfl; (with_reducible repeat (first | apply kN | apply kD | apply kA)); refine blk_put (cs := #[.int .i64 ((rd_T86 l0_6 x5_4).f0), .int .i64 ((rd_T86 l0_6 x5_4).f1), .int .i64 0, .float .f64 0]) ?_ 2 _ rfl; (with_reducible repeat (first | apply kN | apply kD | apply kA)); refine blk_put (cs := #[.int .i64 ((rd_T86 l0_6 x5_4).f0), .int .i64 0, .int .i64 0, .float .f64 0]) ?_ 1 _ rfl; (with_reducible repeat (first | apply kN | apply kD | apply kA)); refine blk_put (cs := #[.int .i64 0, .int .i64 0, .int .i64 0, .float .f64 0]) ?_ 0 _ rfl; (with_reducible repeat (first | apply kN | apply kD | apply kA)); exact BK142.out)) : gb142 ≠ gb143)); have n18_ := A0s.mk ((by rw [hg]; exact Nat.ne_of_gt (blk_lt (g := gb142) (o := .cells #[.int .i64 ((rd_T86 l0_6 x5_4).f0), .int .i64 ((rd_T86 l0_6 x5_4).f1), .int .i64 ((rd_T86 l0_6 x5_4).f2), .float .f64 ((rd_T86 l0_6 x5_4).f3)] 86 (0, 0)) (by (with_reducible repeat (first | apply kN | apply kD | apply kA)); refine blk_put (cs := #[.int .i64 ((rd_T86 l0_6 x5_4).f0), .int .i64 ((rd_T86 l0_6 x5_4).f1), .int .i64 ((rd_T86 l0_6 x5_4).f2), .float .f64 0]) ?_ 3 _ rfl; (with_reducible repeat (first | apply kN | apply kD | apply kA)); refine blk_put (cs := #[.int .i64 ((rd_T86 l0_6 x5_4).f0), .int .i64 ((rd_T86 l0_6 x5_4).f1), .int .i64 0, .float .f64 0]) ?_ 2 _ rfl; (with_reducible repeat (first | apply kN | apply kD | apply kA)); refine blk_put (cs := #[.int .i64 ((rd_T86 l0_6 x5_4).f0), .int .i64 0, .int .i64 0, .float .f64 0]) ?_ 1 _ rfl; (with_reducible repeat (first | apply kN | apply kD | apply kA)); refine blk_put (cs := #[.int .i64 0, .int .i64 0, .int .i64 0, .float .f64 0]) ?_ 0 _ rfl; (with_reducible repeat (first | apply kN | apply kD | apply kA)); exact BK142.out)) : gb143 ≠ gb142)); clear HO_134004; clear HO_134005; clear HO_134006; clear BK128; clear BK129; clear BK133; clear BK142; clear HB; have HO_134004 := n0_; have HO_134005 := n1_; have HO_134006 := n2_; have BK128 := n3_; have BK129 := n4_; have BK133 := n5_; have BK142 := n6_; have HB := n7_; have BK143 := n8_; have GW143 := n9_; have GE143 := n10_; have NB128_143 := n11_; have NB143_128 := n12_; have NB129_143 := n13_; have NB143_129 := n14_; have NB133_143 := n15_; have NB143_133 := n16_; have NB142_143 := n17_; have NB143_142 := n18_; clear n0_ n1_ n2_ n3_ n4_ n5_ n6_ n7_ n8_ n9_ n10_ n11_ n12_ n13_ n14_ n15_ n16_ n17_ n18_; clear hb hbox hg; have hnb69 := NB143_128.out; have hnc69 := NB128_143.out; have hnb70 := NB143_129.out; have hnc70 := NB129_143.out; have hnb71 := NB143_133.out; have hnc71 := NB133_143.out; have hnb72 := NB143_142.out; have hnc72 := NB142_143.out; obtain ⟨hcz73_0, hcz73_1, hcz73_2, hcz73_3, hfz73_0, hfz73_1, hfz73_2, hfz73_3⟩ := blk_all4 BK143.out))
               (try simp only [Act.put, List.setIfInBounds_toArray, List.set_cons_zero, List.set_cons_succ])
               go_cut [] (fun wc => ∃ (kq : Nat) (x144002_58 : Int), A0s (stopgateref05_Fix.j5 kq x5_4 a0_0 a0_1 a0_2 a0_3 l0_4 l0_5 l0_6 (wrap64 (1 + (wrap64 (Int.tmod (IntKind.u64.wrap (a0_0)) 3)))) (wrap64 (Int.tmod (IntKind.u64.wrap (a0_1)) 4)) (wrap64 (1 + (wrap64 (Int.tmod (IntKind.u64.wrap (a0_2)) 6)))) (wrap64 (1 + (wrap64 (Int.tmod (IntKind.u64.wrap (a0_3)) 8)))) t130 x134005_34 x134006_4 (wrap64 (1 + (wrap64 (Int.tmod (IntKind.u64.wrap ((rd_T86 l0_6 x5_4).f0)) 1099511627776)))) (wrap64 (1 + (wrap64 (Int.tmod (IntKind.u64.wrap ((rd_T86 l0_6 x5_4).f1)) 1099511627776)))) x144002_58 ((rd_T86 l0_6 x5_4).f3) = some (r1, r2, r3, r4, r5, r6, r7)) ∧ A0s (kq ≤ kj47) ∧ A0s (Kd.R k176 176 wc w.heap.size (fun _ => True) (.slice Ao10 t130.length co10) t130) ∧ A0s (Kd.R (Kd.int .i64) 3 wc w.heap.size (fun _ => True) u134005 x134005_34) ∧ A0s (Kd.R k86 86 wc w.heap.size (fun k_ => k_ ≠ gb142 ∧ k_ ≠ gb143) u134006 x134006_4) ∧ A0s (wc.heap[gb128]? = some (.cells #[.int .i64 a0_0, .int .i64 a0_1, .int .i64 a0_2, .int .i64 a0_3, (.slice A0_4 l0_4.length c0_4), (.slice A0_5 l0_5.length c0_5), (.slice (some ad141) l0_6.length c0_6)] 81 (0, 0))) ∧ A0s (wc.heap[gb129]? = some (.cells #[.int .i64 0, .int .i64 0, .int .i64 0, .int .i64 0, (.slice none 0 0), (.slice none 0 0), (.slice none 0 0)] 81 (0, 0))) ∧ A0s (wc.heap[gb133]? = some (.cells #[.int .i64 (wrap64 (1 + (wrap64 (Int.tmod (IntKind.u64.wrap (a0_0)) 3)))), .int .i64 (wrap64 (Int.tmod (IntKind.u64.wrap (a0_1)) 4)), .int .i64 (wrap64 (1 + (wrap64 (Int.tmod (IntKind.u64.wrap (a0_2)) 6)))), .int .i64 (wrap64 (1 + (wrap64 (Int.tmod (IntKind.u64.wrap (a0_3)) 8)))), (.slice Ao10 t130.length co10), u134005, u134006] 81 (0, 0))) ∧ A0s (wc.heap[gb142]? = some (.cells #[.int .i64 ((rd_T86 l0_6 x5_4).f0), .int .i64 ((rd_T86 l0_6 x5_4).f1), .int .i64 ((rd_T86 l0_6 x5_4).f2), .float .f64 ((rd_T86 l0_6 x5_4).f3)] 86 (0, 0))) ∧ A0s (wc.heap[gb143]? = some (.cells #[.int .i64 (wrap64 (1 + (wrap64 (Int.tmod (IntKind.u64.wrap ((rd_T86 l0_6 x5_4).f0)) 1099511627776)))), .int .i64 (wrap64 (1 + (wrap64 (Int.tmod (IntKind.u64.wrap ((rd_T86 l0_6 x5_4).f1)) 1099511627776)))), .int .i64 x144002_58, .float .f64 ((rd_T86 l0_6 x5_4).f3)] 86 (0, 0))) ∧ A0s (Below w.heap.size w wc))
               case first =>
                have H := HC59.out
                clear HC59
                by_cases c74 : ((rd_T86 l0_6 x5_4).f2) < 0
                ·rw [if_pos c74] at H
                 have c74b0 : decide (((rd_T86 l0_6 x5_4).f2) < 0) = true := decide_eq_true c74
                 clear c74
                 (first | rw [c74b0] | (simp only [i64_w, i32_w]; rw [c74b0]) | skip)
                 have H' := A0s.mk H
                 clear H
                 have hnb75 := NB143_128.out
                 have hnc75 := NB128_143.out
                 have hnb76 := NB143_129.out
                 have hnc76 := NB129_143.out
                 have hnb77 := NB143_133.out
                 have hnc77 := NB133_143.out
                 have hnb78 := NB143_142.out
                 have hnc78 := NB142_143.out
                 obtain ⟨hcz79_0, hcz79_1, hcz79_2, hcz79_3, hfz79_0, hfz79_1, hfz79_2, hfz79_3⟩ := blk_all4 BK143.out
                 go_wp2
                 go_meet
                 case rel => exact ⟨_, (9223372036854775807), H', ⟨by have := HK1.out; have := HJ17.out; have := HJ34.out; have := HK4.out; have := HJ47.out; first | omega | exact Nat.le_refl _⟩, ⟨by (with_reducible repeat (first | apply Kd.RA | apply Kd.RN | apply Kd.RD)); exact Kd.R_mono (Kd.R_far (p := ⟨gb143, 2, none⟩) (Kd.R_far (p := ⟨gb143, 3, none⟩) (Kd.R_far (p := ⟨gb143, 2, none⟩) (Kd.R_far (p := ⟨gb143, 1, none⟩) (Kd.R_far (p := ⟨gb143, 0, none⟩) (Kd.R_types HO_134004.out BK143.out (by decide)) (fun _ hk => hk.2) (.int .i64 (wrap64 (1 + (wrap64 (Int.tmod (IntKind.u64.wrap ((rd_T86 l0_6 x5_4).f0)) 1099511627776)))))) (fun _ hk => hk.2) (.int .i64 (wrap64 (1 + (wrap64 (Int.tmod (IntKind.u64.wrap ((rd_T86 l0_6 x5_4).f1)) 1099511627776)))))) (fun _ hk => hk.2) (.int .i64 ((rd_T86 l0_6 x5_4).f2))) (fun _ hk => hk.2) (.float .f64 ((rd_T86 l0_6 x5_4).f3))) (fun _ hk => hk.2) (.int .i64 9223372036854775807)) (fun _ hk => trivial)⟩, ⟨by (with_reducible repeat (first | apply Kd.RA | apply Kd.RN | apply Kd.RD)); exact Kd.R_mono (Kd.R_far (p := ⟨gb143, 2, none⟩) (Kd.R_far (p := ⟨gb143, 3, none⟩) (Kd.R_far (p := ⟨gb143, 2, none⟩) (Kd.R_far (p := ⟨gb143, 1, none⟩) (Kd.R_far (p := ⟨gb143, 0, none⟩) (Kd.R_types HO_134005.out BK143.out (by decide)) (fun _ hk => hk.2) (.int .i64 (wrap64 (1 + (wrap64 (Int.tmod (IntKind.u64.wrap ((rd_T86 l0_6 x5_4).f0)) 1099511627776)))))) (fun _ hk => hk.2) (.int .i64 (wrap64 (1 + (wrap64 (Int.tmod (IntKind.u64.wrap ((rd_T86 l0_6 x5_4).f1)) 1099511627776)))))) (fun _ hk => hk.2) (.int .i64 ((rd_T86 l0_6 x5_4).f2))) (fun _ hk => hk.2) (.float .f64 ((rd_T86 l0_6 x5_4).f3))) (fun _ hk => hk.2) (.int .i64 9223372036854775807)) (fun _ hk => trivial)⟩, ⟨by (with_reducible repeat (first | apply Kd.RA | apply Kd.RN | apply Kd.RD)); exact Kd.R_mono (Kd.R_far (p := ⟨gb143, 2, none⟩) (Kd.R_far (p := ⟨gb143, 3, none⟩) (Kd.R_far (p := ⟨gb143, 2, none⟩) (Kd.R_far (p := ⟨gb143, 1, none⟩) (Kd.R_far (p := ⟨gb143, 0, none⟩) (Kd.R_mono HO_134006.out (fun k_ hk => (⟨hk, hk.2⟩ : _ ∧ k_ ≠ gb143))) (fun _ hk => hk.2) (.int .i64 (wrap64 (1 + (wrap64 (Int.tmod (IntKind.u64.wrap ((rd_T86 l0_6 x5_4).f0)) 1099511627776)))))) (fun _ hk => hk.2) (.int .i64 (wrap64 (1 + (wrap64 (Int.tmod (IntKind.u64.wrap ((rd_T86 l0_6 x5_4).f1)) 1099511627776)))))) (fun _ hk => hk.2) (.int .i64 ((rd_T86 l0_6 x5_4).f2))) (fun _ hk => hk.2) (.float .f64 ((rd_T86 l0_6 x5_4).f3))) (fun _ hk => hk.2) (.int .i64 9223372036854775807)) (fun _ hk => ⟨hk.1.1.2, hk.1.2⟩)⟩, ⟨by (with_reducible repeat (first | apply kN | apply kD | apply kA)); refine blk_far ?_ NB128_143.out _; (with_reducible repeat (first | apply kN | apply kD | apply kA)); refine blk_far ?_ NB128_143.out _; (with_reducible repeat (first | apply kN | apply kD | apply kA)); refine blk_far ?_ NB128_143.out _; (with_reducible repeat (first | apply kN | apply kD | apply kA)); refine blk_far ?_ NB128_143.out _; (with_reducible repeat (first | apply kN | apply kD | apply kA)); refine blk_far ?_ NB128_143.out _; (with_reducible repeat (first | apply kN | apply kD | apply kA)); exact BK128.out⟩, ⟨by (with_reducible repeat (first | apply kN | apply kD | apply kA)); refine blk_far ?_ NB129_143.out _; (with_reducible repeat (first | apply kN | apply kD | apply kA)); refine blk_far ?_ NB129_143.out _; (with_reducible repeat (first | apply kN | apply kD | apply kA)); refine blk_far ?_ NB129_143.out _; (with_reducible repeat (first | apply kN | apply kD | apply kA)); refine blk_far ?_ NB129_143.out _; (with_reducible repeat (first | apply kN | apply kD | apply kA)); refine blk_far ?_ NB129_143.out _; (with_reducible repeat (first | apply kN | apply kD | apply kA)); exact BK129.out⟩, ⟨by (with_reducible repeat (first | apply kN | apply kD | apply kA)); refine blk_far ?_ NB133_143.out _; (with_reducible repeat (first | apply kN | apply kD | apply kA)); refine blk_far ?_ NB133_143.out _; (with_reducible repeat (first | apply kN | apply kD | apply kA)); refine blk_far ?_ NB133_143.out _; (with_reducible repeat (first | apply kN | apply kD | apply kA)); refine blk_far ?_ NB133_143.out _; (with_reducible repeat (first | apply kN | apply kD | apply kA)); refine blk_far ?_ NB133_143.out _; (with_reducible repeat (first | apply kN | apply kD | apply kA)); exact BK133.out⟩, ⟨by (with_reducible repeat (first | apply kN | apply kD | apply kA)); refine blk_far ?_ NB142_143.out _; (with_reducible repeat (first | apply kN | apply kD | apply kA)); refine blk_far ?_ NB142_143.out _; (with_reducible repeat (first | apply kN | apply kD | apply kA)); refine blk_far ?_ NB142_143.out _; (with_reducible repeat (first | apply kN | apply kD | apply kA)); refine blk_far ?_ NB142_143.out _; (with_reducible repeat (first | apply kN | apply kD | apply kA)); refine blk_far ?_ NB142_143.out _; (with_reducible repeat (first | apply kN | apply kD | apply kA)); exact BK142.out⟩, ⟨by (with_reducible repeat (first | apply kN | apply kD | apply kA)); refine blk_put (cs := #[.int .i64 (wrap64 (1 + (wrap64 (Int.tmod (IntKind.u64.wrap ((rd_T86 l0_6 x5_4).f0)) 1099511627776)))), .int .i64 (wrap64 (1 + (wrap64 (Int.tmod (IntKind.u64.wrap ((rd_T86 l0_6 x5_4).f1)) 1099511627776)))), .int .i64 ((rd_T86 l0_6 x5_4).f2), .float .f64 ((rd_T86 l0_6 x5_4).f3)]) ?_ 2 _ rfl; (with_reducible repeat (first | apply kN | apply kD | apply kA)); refine blk_put (cs := #[.int .i64 (wrap64 (1 + (wrap64 (Int.tmod (IntKind.u64.wrap ((rd_T86 l0_6 x5_4).f0)) 1099511627776)))), .int .i64 (wrap64 (1 + (wrap64 (Int.tmod (IntKind.u64.wrap ((rd_T86 l0_6 x5_4).f1)) 1099511627776)))), .int .i64 ((rd_T86 l0_6 x5_4).f2), .float .f64 0]) ?_ 3 _ rfl; (with_reducible repeat (first | apply kN | apply kD | apply kA)); refine blk_put (cs := #[.int .i64 (wrap64 (1 + (wrap64 (Int.tmod (IntKind.u64.wrap ((rd_T86 l0_6 x5_4).f0)) 1099511627776)))), .int .i64 (wrap64 (1 + (wrap64 (Int.tmod (IntKind.u64.wrap ((rd_T86 l0_6 x5_4).f1)) 1099511627776)))), .int .i64 0, .float .f64 0]) ?_ 2 _ rfl; (with_reducible repeat (first | apply kN | apply kD | apply kA)); refine blk_put (cs := #[.int .i64 (wrap64 (1 + (wrap64 (Int.tmod (IntKind.u64.wrap ((rd_T86 l0_6 x5_4).f0)) 1099511627776)))), .int .i64 0, .int .i64 0, .float .f64 0]) ?_ 1 _ rfl; (with_reducible repeat (first | apply kN | apply kD | apply kA)); refine blk_put (cs := #[.int .i64 0, .int .i64 0, .int .i64 0, .float .f64 0]) ?_ 0 _ rfl; (with_reducible repeat (first | apply kN | apply kD | apply kA)); exact BK143.out⟩, ⟨by repeat (first | (with_reducible first | exact HB.out | apply bA | apply bN | apply bD | refine bS ?_ GE128.out | refine bS ?_ GE129.out | refine bS ?_ GE133.out | refine bS ?_ GE142.out | refine bS ?_ GE143.out) | exact HB.out)⟩⟩
                ·rw [if_neg c74] at H
                 have c74b0 : decide (((rd_T86 l0_6 x5_4).f2) < 0) = false := decide_eq_false c74
                 clear c74
                 (first | rw [c74b0] | (simp only [i64_w, i32_w]; rw [c74b0]) | skip)
                 have H' := A0s.mk H
                 clear H
                 go_wp2
                 go_meet
                 case rel => exact ⟨_, ((rd_T86 l0_6 x5_4).f2), H', ⟨by have := HK1.out; have := HJ17.out; have := HJ34.out; have := HK4.out; have := HJ47.out; first | omega | exact Nat.le_refl _⟩, ⟨by (with_reducible repeat (first | apply Kd.RA | apply Kd.RN | apply Kd.RD)); exact Kd.R_mono (Kd.R_far (p := ⟨gb143, 3, none⟩) (Kd.R_far (p := ⟨gb143, 2, none⟩) (Kd.R_far (p := ⟨gb143, 1, none⟩) (Kd.R_far (p := ⟨gb143, 0, none⟩) (Kd.R_types HO_134004.out BK143.out (by decide)) (fun _ hk => hk.2) (.int .i64 (wrap64 (1 + (wrap64 (Int.tmod (IntKind.u64.wrap ((rd_T86 l0_6 x5_4).f0)) 1099511627776)))))) (fun _ hk => hk.2) (.int .i64 (wrap64 (1 + (wrap64 (Int.tmod (IntKind.u64.wrap ((rd_T86 l0_6 x5_4).f1)) 1099511627776)))))) (fun _ hk => hk.2) (.int .i64 ((rd_T86 l0_6 x5_4).f2))) (fun _ hk => hk.2) (.float .f64 ((rd_T86 l0_6 x5_4).f3))) (fun _ hk => trivial)⟩, ⟨by (with_reducible repeat (first | apply Kd.RA | apply Kd.RN | apply Kd.RD)); exact Kd.R_mono (Kd.R_far (p := ⟨gb143, 3, none⟩) (Kd.R_far (p := ⟨gb143, 2, none⟩) (Kd.R_far (p := ⟨gb143, 1, none⟩) (Kd.R_far (p := ⟨gb143, 0, none⟩) (Kd.R_types HO_134005.out BK143.out (by decide)) (fun _ hk => hk.2) (.int .i64 (wrap64 (1 + (wrap64 (Int.tmod (IntKind.u64.wrap ((rd_T86 l0_6 x5_4).f0)) 1099511627776)))))) (fun _ hk => hk.2) (.int .i64 (wrap64 (1 + (wrap64 (Int.tmod (IntKind.u64.wrap ((rd_T86 l0_6 x5_4).f1)) 1099511627776)))))) (fun _ hk => hk.2) (.int .i64 ((rd_T86 l0_6 x5_4).f2))) (fun _ hk => hk.2) (.float .f64 ((rd_T86 l0_6 x5_4).f3))) (fun _ hk => trivial)⟩, ⟨by (with_reducible repeat (first | apply Kd.RA | apply Kd.RN | apply Kd.RD)); exact Kd.R_mono (Kd.R_far (p := ⟨gb143, 3, none⟩) (Kd.R_far (p := ⟨gb143, 2, none⟩) (Kd.R_far (p := ⟨gb143, 1, none⟩) (Kd.R_far (p := ⟨gb143, 0, none⟩) (Kd.R_mono HO_134006.out (fun k_ hk => (⟨hk, hk.2⟩ : _ ∧ k_ ≠ gb143))) (fun _ hk => hk.2) (.int .i64 (wrap64 (1 + (wrap64 (Int.tmod (IntKind.u64.wrap ((rd_T86 l0_6 x5_4).f0)) 1099511627776)))))) (fun _ hk => hk.2) (.int .i64 (wrap64 (1 + (wrap64 (Int.tmod (IntKind.u64.wrap ((rd_T86 l0_6 x5_4).f1)) 1099511627776)))))) (fun _ hk => hk.2) (.int .i64 ((rd_T86 l0_6 x5_4).f2))) (fun _ hk => hk.2) (.float .f64 ((rd_T86 l0_6 x5_4).f3))) (fun _ hk => ⟨hk.1.1.2, hk.1.2⟩)⟩, ⟨by (with_reducible repeat (first | apply kN | apply kD | apply kA)); refine blk_far ?_ NB128_143.out _; (with_reducible repeat (first | apply kN | apply kD | apply kA)); refine blk_far ?_ NB128_143.out _; (with_reducible repeat (first | apply kN | apply kD | apply kA)); refine blk_far ?_ NB128_143.out _; (with_reducible repeat (first | apply kN | apply kD | apply kA)); refine blk_far ?_ NB128_143.out _; (with_reducible repeat (first | apply kN | apply kD | apply kA)); exact BK128.out⟩, ⟨by (with_reducible repeat (first | apply kN | apply kD | apply kA)); refine blk_far ?_ NB129_143.out _; (with_reducible repeat (first | apply kN | apply kD | apply kA)); refine blk_far ?_ NB129_143.out _; (with_reducible repeat (first | apply kN | apply kD | apply kA)); refine blk_far ?_ NB129_143.out _; (with_reducible repeat (first | apply kN | apply kD | apply kA)); refine blk_far ?_ NB129_143.out _; (with_reducible repeat (first | apply kN | apply kD | apply kA)); exact BK129.out⟩, ⟨by (with_reducible repeat (first | apply kN | apply kD | apply kA)); refine blk_far ?_ NB133_143.out _; (with_reducible repeat (first | apply kN | apply kD | apply kA)); refine blk_far ?_ NB133_143.out _; (with_reducible repeat (first | apply kN | apply kD | apply kA)); refine blk_far ?_ NB133_143.out _; (with_reducible repeat (first | apply kN | apply kD | apply kA)); refine blk_far ?_ NB133_143.out _; (with_reducible repeat (first | apply kN | apply kD | apply kA)); exact BK133.out⟩, ⟨by (with_reducible repeat (first | apply kN | apply kD | apply kA)); refine blk_far ?_ NB142_143.out _; (with_reducible repeat (first | apply kN | apply kD | apply kA)); refine blk_far ?_ NB142_143.out _; (with_reducible repeat (first | apply kN | apply kD | apply kA)); refine blk_far ?_ NB142_143.out _; (with_reducible repeat (first | apply kN | apply kD | apply kA)); refine blk_far ?_ NB142_143.out _; (with_reducible repeat (first | apply kN | apply kD | apply kA)); exact BK142.out⟩, ⟨by (with_reducible repeat (first | apply kN | apply kD | apply kA)); refine blk_put (cs := #[.int .i64 (wrap64 (1 + (wrap64 (Int.tmod (IntKind.u64.wrap ((rd_T86 l0_6 x5_4).f0)) 1099511627776)))), .int .i64 (wrap64 (1 + (wrap64 (Int.tmod (IntKind.u64.wrap ((rd_T86 l0_6 x5_4).f1)) 1099511627776)))), .int .i64 ((rd_T86 l0_6 x5_4).f2), .float .f64 0]) ?_ 3 _ rfl; (with_reducible repeat (first | apply kN | apply kD | apply kA)); refine blk_put (cs := #[.int .i64 (wrap64 (1 + (wrap64 (Int.tmod (IntKind.u64.wrap ((rd_T86 l0_6 x5_4).f0)) 1099511627776)))), .int .i64 (wrap64 (1 + (wrap64 (Int.tmod (IntKind.u64.wrap ((rd_T86 l0_6 x5_4).f1)) 1099511627776)))), .int .i64 0, .float .f64 0]) ?_ 2 _ rfl; (with_reducible repeat (first | apply kN | apply kD | apply kA)); refine blk_put (cs := #[.int .i64 (wrap64 (1 + (wrap64 (Int.tmod (IntKind.u64.wrap ((rd_T86 l0_6 x5_4).f0)) 1099511627776)))), .int .i64 0, .int .i64 0, .float .f64 0]) ?_ 1 _ rfl; (with_reducible repeat (first | apply kN | apply kD | apply kA)); refine blk_put (cs := #[.int .i64 0, .int .i64 0, .int .i64 0, .float .f64 0]) ?_ 0 _ rfl; (with_reducible repeat (first | apply kN | apply kD | apply kA)); exact BK143.out⟩, ⟨by repeat (first | (with_reducible first | exact HB.out | apply bA | apply bN | apply bD | refine bS ?_ GE128.out | refine bS ?_ GE129.out | refine bS ?_ GE133.out | refine bS ?_ GE142.out | refine bS ?_ GE143.out) | exact HB.out)⟩⟩
               case rest =>
                clear HC59
                try clear c1
                try clear p1
                try clear q1
                try clear hx1
                try clear c2
                try clear p2
                try clear c3
                try clear c4
                try clear c5
                try clear c6
                try clear p6
                try clear c7
                try clear p13
                try clear q13
                try clear hx13
                try clear p14
                try clear q14
                try clear hx14
                try clear c19
                try clear c19b0
                try clear c20
                try clear c21
                try clear c23
                try clear c24
                try clear c26
                try clear c27
                try clear c27b0
                try clear c28
                try clear c28b0
                try clear c29
                try clear c29b0
                try clear c29b1
                try clear c30
                try clear c36
                try clear c37
                try clear c40
                try clear c40b0
                try clear c40b1
                try clear c40b2
                try clear c41
                try clear c42
                try clear c49
                try clear c49b0
                try clear c50
                try clear c51
                try clear c53
                try clear c54
                try clear c56
                try clear c57
                try clear c57b0
                try clear c58
                try clear c58b0
                try clear c60
                try clear c61
                try clear c64
                try clear p64
                try clear c65
                try clear c66
                try clear c69
                try clear c70
                try clear c71
                try clear c72
                try clear c74
                try clear c74b0
                try clear c75
                try clear c76
                try clear c77
                try clear c78
                try clear hcz22_0
                try clear hcz22_1
                try clear hcz22_2
                try clear hcz22_3
                try clear hcz22_4
                try clear hcz22_5
                try clear hcz22_6
                try clear hcz25_0
                try clear hcz25_1
                try clear hcz25_2
                try clear hcz25_3
                try clear hcz25_4
                try clear hcz25_5
                try clear hcz25_6
                try clear hcz38_0
                try clear hcz38_1
                try clear hcz38_2
                try clear hcz38_3
                try clear hcz38_4
                try clear hcz38_5
                try clear hcz38_6
                try clear hcz43_0
                try clear hcz43_1
                try clear hcz43_2
                try clear hcz43_3
                try clear hcz43_4
                try clear hcz43_5
                try clear hcz43_6
                try clear hcz47_0
                try clear hcz47_1
                try clear hcz47_2
                try clear hcz47_3
                try clear hcz47_4
                try clear hcz47_5
                try clear hcz47_6
                try clear hcz52_0
                try clear hcz52_1
                try clear hcz52_2
                try clear hcz52_3
                try clear hcz52_4
                try clear hcz52_5
                try clear hcz52_6
                try clear hcz55_0
                try clear hcz55_1
                try clear hcz55_2
                try clear hcz55_3
                try clear hcz55_4
                try clear hcz55_5
                try clear hcz55_6
                try clear hcz62_0
                try clear hcz62_1
                try clear hcz62_2
                try clear hcz62_3
                try clear hcz62_4
                try clear hcz62_5
                try clear hcz62_6
                try clear hcz67_0
                try clear hcz67_1
                try clear hcz67_2
                try clear hcz67_3
                try clear hcz73_0
                try clear hcz73_1
                try clear hcz73_2
                try clear hcz73_3
                try clear hcz79_0
                try clear hcz79_1
                try clear hcz79_2
                try clear hcz79_3
                try clear hfz22_0
                try clear hfz22_1
                try clear hfz22_2
                try clear hfz22_3
                try clear hfz22_4
                try clear hfz22_5
                try clear hfz22_6
                try clear hfz25_0
                try clear hfz25_1
                try clear hfz25_2
                try clear hfz25_3
                try clear hfz25_4
                try clear hfz25_5
                try clear hfz25_6
                try clear hfz38_0
                try clear hfz38_1
                try clear hfz38_2
                try clear hfz38_3
                try clear hfz38_4
                try clear hfz38_5
                try clear hfz38_6
                try clear hfz43_0
                try clear hfz43_1
                try clear hfz43_2
                try clear hfz43_3
                try clear hfz43_4
                try clear hfz43_5
                try clear hfz43_6
                try clear hfz47_0
                try clear hfz47_1
                try clear hfz47_2
                try clear hfz47_3
                try clear hfz47_4
                try clear hfz47_5
                try clear hfz47_6
                try clear hfz52_0
                try clear hfz52_1
                try clear hfz52_2
                try clear hfz52_3
                try clear hfz52_4
                try clear hfz52_5
                try clear hfz52_6
                try clear hfz55_0
                try clear hfz55_1
                try clear hfz55_2
                try clear hfz55_3
                try clear hfz55_4
                try clear hfz55_5
                try clear hfz55_6
                try clear hfz62_0
                try clear hfz62_1
                try clear hfz62_2
                try clear hfz62_3
                try clear hfz62_4
                try clear hfz62_5
                try clear hfz62_6
                try clear hfz67_0
                try clear hfz67_1
                try clear hfz67_2
                try clear hfz67_3
                try clear hfz73_0
                try clear hfz73_1
                try clear hfz73_2
                try clear hfz73_3
                try clear hfz79_0
                try clear hfz79_1
                try clear hfz79_2
                try clear hfz79_3
                try clear hx134_0
                try clear hx141_0
                try clear hx141_1
                try clear hx141_2
                try clear hx141_3
                try clear p1
                try clear p13
                try clear p134
                try clear p141
                try clear p2
                try clear p6
                try clear q1
                try clear q13
                try clear q134
                try clear q141
                obtain ⟨kq, x144002_58, HA, HJ58, HO_134004, HO_134005, HO_134006, BK128, BK129, BK133, BK142, BK143, HB⟩ := hcut
                cases kq with
                | zero => exact absurd HA.out (by simp [stopgateref05_Fix.j5])
                | succ kj58 =>
                 have H := HA.out
                 clear HA
                 simp only [stopgateref05_Fix.j5] at H
                 replace H := Option.bind_eq_some_iff.mp H
                 obtain ⟨t144, A800, H⟩ := H
                 replace H : (if t144 = true then (if x134006_4.length < 4398046511104 then (stopgateref05_Fix.l1 kj58 (wrap64 (x5_4 + 1)) a0_0 a0_1 a0_2 a0_3 l0_4 l0_5 l0_6 (wrap64 (1 + (wrap64 (Int.tmod (IntKind.u64.wrap (a0_0)) 3)))) (wrap64 (Int.tmod (IntKind.u64.wrap (a0_1)) 4)) (wrap64 (1 + (wrap64 (Int.tmod (IntKind.u64.wrap (a0_2)) 6)))) (wrap64 (1 + (wrap64 (Int.tmod (IntKind.u64.wrap (a0_3)) 8)))) t130 x134005_34 (x134006_4 ++ [(⟨(wrap64 (1 + (wrap64 (Int.tmod (IntKind.u64.wrap ((rd_T86 l0_6 x5_4).f0)) 1099511627776)))), (wrap64 (1 + (wrap64 (Int.tmod (IntKind.u64.wrap ((rd_T86 l0_6 x5_4).f1)) 1099511627776)))), x144002_58, ((rd_T86 l0_6 x5_4).f3)⟩ : S86)])) else (none)) else (if x134006_4.length < 4398046511104 then (stopgateref05_Fix.l1 kj58 (wrap64 (x5_4 + 1)) a0_0 a0_1 a0_2 a0_3 l0_4 l0_5 l0_6 (wrap64 (1 + (wrap64 (Int.tmod (IntKind.u64.wrap (a0_0)) 3)))) (wrap64 (Int.tmod (IntKind.u64.wrap (a0_1)) 4)) (wrap64 (1 + (wrap64 (Int.tmod (IntKind.u64.wrap (a0_2)) 6)))) (wrap64 (1 + (wrap64 (Int.tmod (IntKind.u64.wrap (a0_3)) 8)))) t130 x134005_34 (x134006_4 ++ [(⟨(wrap64 (1 + (wrap64 (Int.tmod (IntKind.u64.wrap ((rd_T86 l0_6 x5_4).f0)) 1099511627776)))), (wrap64 (1 + (wrap64 (Int.tmod (IntKind.u64.wrap ((rd_T86 l0_6 x5_4).f1)) 1099511627776)))), x144002_58, 4602678819172646912⟩ : S86)])) else (none))) = some (r1, r2, r3, r4, r5, r6, r7) := H
                 have A80 := A0s.mk A800
                 clear A800
                 by_cases c81 : t144 = true
                 ·subst c81
                  have H1 : (if x134006_4.length < 4398046511104 then (stopgateref05_Fix.l1 kj58 (wrap64 (x5_4 + 1)) a0_0 a0_1 a0_2 a0_3 l0_4 l0_5 l0_6 (wrap64 (1 + (wrap64 (Int.tmod (IntKind.u64.wrap (a0_0)) 3)))) (wrap64 (Int.tmod (IntKind.u64.wrap (a0_1)) 4)) (wrap64 (1 + (wrap64 (Int.tmod (IntKind.u64.wrap (a0_2)) 6)))) (wrap64 (1 + (wrap64 (Int.tmod (IntKind.u64.wrap (a0_3)) 8)))) t130 x134005_34 (x134006_4 ++ [(⟨(wrap64 (1 + (wrap64 (Int.tmod (IntKind.u64.wrap ((rd_T86 l0_6 x5_4).f0)) 1099511627776)))), (wrap64 (1 + (wrap64 (Int.tmod (IntKind.u64.wrap ((rd_T86 l0_6 x5_4).f1)) 1099511627776)))), x144002_58, ((rd_T86 l0_6 x5_4).f3)⟩ : S86)])) else (none)) = some (r1, r2, r3, r4, r5, r6, r7) := by rw [if_pos rfl] at H; exact H
                  clear H
                  have H := H1
                  clear H1
                  by_cases c82 : x134006_4.length < 4398046511104
                  ·rw [if_pos c82] at H
                   have LMc82 := A0s.mk c82
                   clear c82
                   obtain ⟨y145, hy145⟩ : ∃ y_ : List (S86), y_ = (x134006_4 ++ [(⟨(wrap64 (1 + (wrap64 (Int.tmod (IntKind.u64.wrap ((rd_T86 l0_6 x5_4).f0)) 1099511627776)))), (wrap64 (1 + (wrap64 (Int.tmod (IntKind.u64.wrap ((rd_T86 l0_6 x5_4).f1)) 1099511627776)))), x144002_58, ((rd_T86 l0_6 x5_4).f3)⟩ : S86)]) := ⟨_, rfl⟩
                   replace H : (stopgateref05_Fix.l1 kj58 (wrap64 (x5_4 + 1)) a0_0 a0_1 a0_2 a0_3 l0_4 l0_5 l0_6 (wrap64 (1 + (wrap64 (Int.tmod (IntKind.u64.wrap (a0_0)) 3)))) (wrap64 (Int.tmod (IntKind.u64.wrap (a0_1)) 4)) (wrap64 (1 + (wrap64 (Int.tmod (IntKind.u64.wrap (a0_2)) 6)))) (wrap64 (1 + (wrap64 (Int.tmod (IntKind.u64.wrap (a0_3)) 8)))) t130 x134005_34 y145) = some (r1, r2, r3, r4, r5, r6, r7) := by first | (rw [hy145]; with_reducible exact H) | (have H2_ := (Option.bind_some _ _).symm.trans H; rw [hy145]; with_reducible exact H2_) | (have H2_ := (Option.bind_some _ _).symm.trans H; with_reducible exact H2_) | with_reducible exact H | (rw [hy145]; exact H) | exact H
                   have Ny145 := A0s.mk hy145
                   clear hy145
                   have H' := A0s.mk H
                   clear H
                   have hnb83 := NB143_128.out
                   have hnc83 := NB128_143.out
                   have hnb84 := NB143_129.out
                   have hnc84 := NB129_143.out
                   have hnb85 := NB143_133.out
                   have hnc85 := NB133_143.out
                   have hnb86 := NB143_142.out
                   have hnc86 := NB142_143.out
                   obtain ⟨hcz87_0, hcz87_1, hcz87_2, hcz87_3, hfz87_0, hfz87_1, hfz87_2, hfz87_3⟩ := blk_all4 BK143.out
                   go_wp2_with (first | ((with_reducible refine gC (f := 75) rfl ?_); refine gL (some 112) rfl rfl Try.func75 (by kernel_rfl) rfl #[.float .f64 ((rd_T86 l0_6 x5_4).f3)] rfl (by (try simp only [List.map_toArray, List.map_cons, List.map_nil]); first | done | rfl | (simp only [List.length_drop, List.length_take]; rfl)) ?_; (with_reducible refine (stopgateref02_Right.calls ((rd_T86 l0_6 x5_4).f3) true _ A80.out).mono ?_); rintro e w' ⟨rfl, ⟨nd, rfl⟩⟩; refine ⟨_, rfl, ?_⟩; (try (rw [drewN_self wc]; generalize hq_ : World.drewN wc _ = wc; have n0_ : A0s (Kd.R k176 176 wc w.heap.size (fun _ => True) (.slice Ao10 t130.length co10) t130) := ⟨by rw [← hq_]; exact (by (with_reducible repeat (first | apply Kd.RA | apply Kd.RN | apply Kd.RD)); exact HO_134004.out)⟩; have n1_ : A0s (Kd.R (Kd.int .i64) 3 wc w.heap.size (fun _ => True) u134005 x134005_34) := ⟨by rw [← hq_]; exact (by (with_reducible repeat (first | apply Kd.RA | apply Kd.RN | apply Kd.RD)); exact HO_134005.out)⟩; have n2_ : A0s (Kd.R k86 86 wc w.heap.size (fun k_ => k_ ≠ gb142 ∧ k_ ≠ gb143) u134006 x134006_4) := ⟨by rw [← hq_]; exact (by (with_reducible repeat (first | apply Kd.RA | apply Kd.RN | apply Kd.RD)); exact HO_134006.out)⟩; have n3_ : A0s (wc.heap[gb128]? = some (.cells #[.int .i64 a0_0, .int .i64 a0_1, .int .i64 a0_2, .int .i64 a0_3, .slice A0_4 l0_4.length c0_4, .slice A0_5 l0_5.length c0_5, .slice (some ad141) l0_6.length c0_6] 81 (0, 0))) := ⟨by rw [← hq_]; exact (by (with_reducible repeat (first | apply kN | apply kD | apply kA)); exact BK128.out)⟩; have n4_ : A0s (wc.heap[gb129]? = some (.cells #[.int .i64 0, .int .i64 0, .int .i64 0, .int .i64 0, .slice none 0 0, .slice none 0 0, .slice none 0 0] 81 (0, 0))) := ⟨by rw [← hq_]; exact (by (with_reducible repeat (first | apply kN | apply kD | apply kA)); exact BK129.out)⟩; have n5_ : A0s (wc.heap[gb133]? = some (.cells #[.int .i64 (wrap64 (1 + (wrap64 (Int.tmod (IntKind.u64.wrap (a0_0)) 3)))), .int .i64 (wrap64 (Int.tmod (IntKind.u64.wrap (a0_1)) 4)), .int .i64 (wrap64 (1 + (wrap64 (Int.tmod (IntKind.u64.wrap (a0_2)) 6)))), .int .i64 (wrap64 (1 + (wrap64 (Int.tmod (IntKind.u64.wrap (a0_3)) 8)))), .slice Ao10 t130.length co10, u134005, u134006] 81 (0, 0))) := ⟨by rw [← hq_]; exact (by (with_reducible repeat (first | apply kN | apply kD | apply kA)); exact BK133.out)⟩; have n6_ : A0s (wc.heap[gb142]? = some (.cells #[.int .i64 ((rd_T86 l0_6 x5_4).f0), .int .i64 ((rd_T86 l0_6 x5_4).f1), .int .i64 ((rd_T86 l0_6 x5_4).f2), .float .f64 ((rd_T86 l0_6 x5_4).f3)] 86 (0, 0))) := ⟨by rw [← hq_]; exact (by (with_reducible repeat (first | apply kN | apply kD | apply kA)); exact BK142.out)⟩; have n7_ : A0s (wc.heap[gb143]? = some (.cells #[.int .i64 (wrap64 (1 + (wrap64 (Int.tmod (IntKind.u64.wrap ((rd_T86 l0_6 x5_4).f0)) 1099511627776)))), .int .i64 (wrap64 (1 + (wrap64 (Int.tmod (IntKind.u64.wrap ((rd_T86 l0_6 x5_4).f1)) 1099511627776)))), .int .i64 x144002_58, .float .f64 ((rd_T86 l0_6 x5_4).f3)] 86 (0, 0))) := ⟨by rw [← hq_]; exact (by (with_reducible repeat (first | apply kN | apply kD | apply kA)); exact BK143.out)⟩; have n8_ : A0s (Below w.heap.size w wc) := ⟨by rw [← hq_]; exact (by repeat (first | (with_reducible first | exact HB.out | apply bA | apply bN | apply bD | refine bS ?_ GE128.out | refine bS ?_ GE129.out | refine bS ?_ GE133.out | refine bS ?_ GE142.out | refine bS ?_ GE143.out) | exact HB.out))⟩; clear HO_134004 HO_134005 HO_134006 BK128 BK129 BK133 BK142 BK143 HB hq_; have HO_134004 := n0_; have HO_134005 := n1_; have HO_134006 := n2_; have BK128 := n3_; have BK129 := n4_; have BK133 := n5_; have BK142 := n6_; have BK143 := n7_; have HB := n8_; clear n0_ n1_ n2_ n3_ n4_ n5_ n6_ n7_ n8_)); have hnb88 := NB133_128.out; have hnc88 := NB128_133.out; have hnb89 := NB133_129.out; have hnc89 := NB129_133.out; have hnb90 := NB133_142.out; have hnc90 := NB142_133.out; obtain ⟨hcz91_0, hcz91_1, hcz91_2, hcz91_3, hcz91_4, hcz91_5, hcz91_6, hfz91_0, hfz91_1, hfz91_2, hfz91_3, hfz91_4, hfz91_5, hfz91_6⟩ := blk_all7 BK133.out; obtain ⟨hcz92_0, hcz92_1, hcz92_2, hcz92_3, hfz92_0, hfz92_1, hfz92_2, hfz92_3⟩ := blk_all4 BK143.out) | ((with_reducible refine gate_builtin (b := .append) (xs := #[.tmp 116, .tmp 118]) rfl ?_); at_builtin; refine Kd.R_append k86 (w0 := w) w.heap.size rfl (.tmp 116) (.tmp 118) 79 86 (.agg #[(.int .i64 0), (.int .i64 0), (.int .i64 0), (.float .f64 0)]) 32 rfl Try.underlying79 info86 rfl (by decide) (by omega) u134006 x134006_4 (⟨(wrap64 (1 + (wrap64 (Int.tmod (IntKind.u64.wrap ((rd_T86 l0_6 x5_4).f0)) 1099511627776)))), (wrap64 (1 + (wrap64 (Int.tmod (IntKind.u64.wrap ((rd_T86 l0_6 x5_4).f1)) 1099511627776)))), x144002_58, ((rd_T86 l0_6 x5_4).f3)⟩ : S86) [.int .i64 (wrap64 (1 + (wrap64 (Int.tmod (IntKind.u64.wrap ((rd_T86 l0_6 x5_4).f0)) 1099511627776)))), .int .i64 (wrap64 (1 + (wrap64 (Int.tmod (IntKind.u64.wrap ((rd_T86 l0_6 x5_4).f1)) 1099511627776)))), .int .i64 x144002_58, .float .f64 ((rd_T86 l0_6 x5_4).f3)] (fun k_ => k_ ≠ gb142 ∧ k_ ≠ gb143) (fun _ => False) rfl rfl ?aP (fun _ hk => hk.elim) ?aF ?aO ?aB ?aS ?aL ?_; (case aP => exact k86_mkM _ _ _ (⟨(wrap64 (1 + (wrap64 (Int.tmod (IntKind.u64.wrap ((rd_T86 l0_6 x5_4).f0)) 1099511627776)))), (wrap64 (1 + (wrap64 (Int.tmod (IntKind.u64.wrap ((rd_T86 l0_6 x5_4).f1)) 1099511627776)))), x144002_58, ((rd_T86 l0_6 x5_4).f3)⟩ : S86)); (case aB => exact (by repeat (first | (with_reducible first | exact HB.out | apply bA | apply bN | apply bD | refine bS ?_ GE128.out | refine bS ?_ GE129.out | refine bS ?_ GE133.out | refine bS ?_ GE142.out | refine bS ?_ GE143.out) | exact HB.out))); (case aF => exact (fun k_ hk => ⟨Kd.freshB (g := gb142) (o := .cells #[.int .i64 ((rd_T86 l0_6 x5_4).f0), .int .i64 ((rd_T86 l0_6 x5_4).f1), .int .i64 ((rd_T86 l0_6 x5_4).f2), .float .f64 ((rd_T86 l0_6 x5_4).f3)] 86 (0, 0)) (by (with_reducible repeat (first | apply kN | apply kD | apply kA)); exact BK142.out) k_ hk, Kd.freshB (g := gb143) (o := .cells #[.int .i64 (wrap64 (1 + (wrap64 (Int.tmod (IntKind.u64.wrap ((rd_T86 l0_6 x5_4).f0)) 1099511627776)))), .int .i64 (wrap64 (1 + (wrap64 (Int.tmod (IntKind.u64.wrap ((rd_T86 l0_6 x5_4).f1)) 1099511627776)))), .int .i64 x144002_58, .float .f64 ((rd_T86 l0_6 x5_4).f3)] 86 (0, 0)) (by (with_reducible repeat (first | apply kN | apply kD | apply kA)); exact BK143.out) k_ hk⟩)); (case aO => exact (by (with_reducible repeat (first | apply Kd.RA | apply Kd.RN | apply Kd.RD)); exact HO_134006.out)); (case aS => exact (below_size (by repeat (first | (with_reducible first | exact HB.out | apply bA | apply bN | apply bD | refine bS ?_ GE128.out | refine bS ?_ GE129.out | refine bS ?_ GE133.out | refine bS ?_ GE142.out | refine bS ?_ GE143.out) | exact HB.out)))); (case aL => have := LMc82.out; omega); intro v146 w93 ho hb hg hat; rw [← Ny145.out] at ho; have n0_ := A0s.mk (Kd.R_over' (by (with_reducible repeat (first | apply Kd.RA | apply Kd.RN | apply Kd.RD)); exact HO_134004.out) (Kd.R_typed (by (with_reducible repeat (first | apply Kd.RA | apply Kd.RN | apply Kd.RD)); exact HO_134006.out)) (by decide) hg); have n1_ := A0s.mk (Kd.R_over' (by (with_reducible repeat (first | apply Kd.RA | apply Kd.RN | apply Kd.RD)); exact HO_134005.out) (Kd.R_typed (by (with_reducible repeat (first | apply Kd.RA | apply Kd.RN | apply Kd.RD)); exact HO_134006.out)) (by decide) hg); have n2_ := A0s.mk (blk_grown (g := gb128) (o := .cells #[.int .i64 a0_0, .int .i64 a0_1, .int .i64 a0_2, .int .i64 a0_3, .slice A0_4 l0_4.length c0_4, .slice A0_5 l0_5.length c0_5, .slice (some ad141) l0_6.length c0_6] 81 (0, 0)) (by (with_reducible repeat (first | apply kN | apply kD | apply kA)); exact BK128.out) hg (Kd.R_ne HO_134006.out BK128.out (by decide))); have n3_ := A0s.mk (blk_grown (g := gb129) (o := .cells #[.int .i64 0, .int .i64 0, .int .i64 0, .int .i64 0, .slice none 0 0, .slice none 0 0, .slice none 0 0] 81 (0, 0)) (by (with_reducible repeat (first | apply kN | apply kD | apply kA)); exact BK129.out) hg (Kd.R_ne HO_134006.out BK129.out (by decide))); have n4_ := A0s.mk (blk_grown (g := gb133) (o := .cells #[.int .i64 (wrap64 (1 + (wrap64 (Int.tmod (IntKind.u64.wrap (a0_0)) 3)))), .int .i64 (wrap64 (Int.tmod (IntKind.u64.wrap (a0_1)) 4)), .int .i64 (wrap64 (1 + (wrap64 (Int.tmod (IntKind.u64.wrap (a0_2)) 6)))), .int .i64 (wrap64 (1 + (wrap64 (Int.tmod (IntKind.u64.wrap (a0_3)) 8)))), .slice Ao10 t130.length co10, u134005, u134006] 81 (0, 0)) (by (with_reducible repeat (first | apply kN | apply kD | apply kA)); exact BK133.out) hg (Kd.R_ne HO_134006.out BK133.out (by decide))); have n5_ := A0s.mk (blk_grown (g := gb142) (o := .cells #[.int .i64 ((rd_T86 l0_6 x5_4).f0), .int .i64 ((rd_T86 l0_6 x5_4).f1), .int .i64 ((rd_T86 l0_6 x5_4).f2), .float .f64 ((rd_T86 l0_6 x5_4).f3)] 86 (0, 0)) (by (with_reducible repeat (first | apply kN | apply kD | apply kA)); exact BK142.out) hg (Kd.R_away HO_134006.out (fun _ hk => hk.1))); have n6_ := A0s.mk (blk_grown (g := gb143) (o := .cells #[.int .i64 (wrap64 (1 + (wrap64 (Int.tmod (IntKind.u64.wrap ((rd_T86 l0_6 x5_4).f0)) 1099511627776)))), .int .i64 (wrap64 (1 + (wrap64 (Int.tmod (IntKind.u64.wrap ((rd_T86 l0_6 x5_4).f1)) 1099511627776)))), .int .i64 x144002_58, .float .f64 ((rd_T86 l0_6 x5_4).f3)] 86 (0, 0)) (by (with_reducible repeat (first | apply kN | apply kD | apply kA)); exact BK143.out) hg (Kd.R_away HO_134006.out (fun _ hk => hk.2))); have n7_ := A0s.mk (hb); have n8_ := A0s.mk (ho); clear HO_134004; clear HO_134005; clear BK128; clear BK129; clear BK133; clear BK142; clear BK143; clear HB; clear HO_134006; have HO_134004 := n0_; have HO_134005 := n1_; have BK128 := n2_; have BK129 := n3_; have BK133 := n4_; have BK142 := n5_; have BK143 := n6_; have HB := n7_; have HO147 := n8_; clear n0_ n1_ n2_ n3_ n4_ n5_ n6_ n7_ n8_; clear ho hb hg hat; obtain ⟨Ao94, co94, eo94⟩ := Kd.R_slice HO147.out; subst eo94; obtain ⟨hcz95_0, hcz95_1, hcz95_2, hcz95_3, hcz95_4, hcz95_5, hcz95_6, hfz95_0, hfz95_1, hfz95_2, hfz95_3, hfz95_4, hfz95_5, hfz95_6⟩ := blk_all7 BK133.out))
                   go_roundg kj58
                   case measure => have := HK1.out; have := HJ17.out; have := HJ34.out; have := HK4.out; have := HJ47.out; have := HJ58.out; omega
                   case rel => exact ⟨(wrap64 (x5_4 + 1)), (y145), (.slice Ao94 y145.length co94), (by first | rfl | (simp; done) | (simp [*]; done)), H', ⟨by have := HK1.out; have := HJ17.out; have := HJ34.out; have := HK4.out; have := HJ47.out; have := HJ58.out; omega⟩, ⟨by (with_reducible repeat (first | apply Kd.RA | apply Kd.RN | apply Kd.RD)); exact Kd.R_mono (Kd.R_far (p := ⟨gb133, 6, none⟩) (Kd.R_types HO_134004.out BK133.out (by decide)) (fun _ hk => hk.2) (.slice Ao94 y145.length co94)) (fun _ hk => trivial)⟩, ⟨by (with_reducible repeat (first | apply Kd.RA | apply Kd.RN | apply Kd.RD)); exact Kd.R_mono (Kd.R_far (p := ⟨gb133, 6, none⟩) (Kd.R_types HO_134005.out BK133.out (by decide)) (fun _ hk => hk.2) (.slice Ao94 y145.length co94)) (fun _ hk => trivial)⟩, ⟨by (with_reducible repeat (first | apply Kd.RA | apply Kd.RN | apply Kd.RD)); exact Kd.R_mono (Kd.R_far (p := ⟨gb133, 6, none⟩) (Kd.R_types HO147.out BK133.out (by decide)) (fun _ hk => hk.2) (.slice Ao94 y145.length co94)) (fun _ hk => trivial)⟩, ⟨by (with_reducible repeat (first | apply kN | apply kD | apply kA)); refine blk_far ?_ NB128_133.out _; (with_reducible repeat (first | apply kN | apply kD | apply kA)); exact BK128.out⟩, ⟨by (with_reducible repeat (first | apply kN | apply kD | apply kA)); refine blk_far ?_ NB129_133.out _; (with_reducible repeat (first | apply kN | apply kD | apply kA)); exact BK129.out⟩, ⟨by (with_reducible repeat (first | apply kN | apply kD | apply kA)); refine blk_put (cs := #[.int .i64 (wrap64 (1 + (wrap64 (Int.tmod (IntKind.u64.wrap (a0_0)) 3)))), .int .i64 (wrap64 (Int.tmod (IntKind.u64.wrap (a0_1)) 4)), .int .i64 (wrap64 (1 + (wrap64 (Int.tmod (IntKind.u64.wrap (a0_2)) 6)))), .int .i64 (wrap64 (1 + (wrap64 (Int.tmod (IntKind.u64.wrap (a0_3)) 8)))), .slice Ao10 t130.length co10, u134005, u134006]) ?_ 6 _ rfl; (with_reducible repeat (first | apply kN | apply kD | apply kA)); exact BK133.out⟩, ⟨by repeat (first | (with_reducible first | exact HB.out | apply bA | apply bN | apply bD | refine bS ?_ GE128.out | refine bS ?_ GE129.out | refine bS ?_ GE133.out | refine bS ?_ GE142.out | refine bS ?_ GE143.out) | exact HB.out)⟩⟩
                  ·rw [if_neg c82] at H
                   exact absurd H (by simp)
                 ·replace c81 := Bool.eq_false_iff.mpr c81
                  subst c81
                  have H1 : (if x134006_4.length < 4398046511104 then (stopgateref05_Fix.l1 kj58 (wrap64 (x5_4 + 1)) a0_0 a0_1 a0_2 a0_3 l0_4 l0_5 l0_6 (wrap64 (1 + (wrap64 (Int.tmod (IntKind.u64.wrap (a0_0)) 3)))) (wrap64 (Int.tmod (IntKind.u64.wrap (a0_1)) 4)) (wrap64 (1 + (wrap64 (Int.tmod (IntKind.u64.wrap (a0_2)) 6)))) (wrap64 (1 + (wrap64 (Int.tmod (IntKind.u64.wrap (a0_3)) 8)))) t130 x134005_34 (x134006_4 ++ [(⟨(wrap64 (1 + (wrap64 (Int.tmod (IntKind.u64.wrap ((rd_T86 l0_6 x5_4).f0)) 1099511627776)))), (wrap64 (1 + (wrap64 (Int.tmod (IntKind.u64.wrap ((rd_T86 l0_6 x5_4).f1)) 1099511627776)))), x144002_58, 4602678819172646912⟩ : S86)])) else (none)) = some (r1, r2, r3, r4, r5, r6, r7) := by rw [if_neg (show ¬ (false = true) by decide)] at H; exact H
                  clear H
                  have H := H1
                  clear H1
                  by_cases c96 : x134006_4.length < 4398046511104
                  ·rw [if_pos c96] at H
                   have LMc96 := A0s.mk c96
                   clear c96
                   obtain ⟨y148, hy148⟩ : ∃ y_ : List (S86), y_ = (x134006_4 ++ [(⟨(wrap64 (1 + (wrap64 (Int.tmod (IntKind.u64.wrap ((rd_T86 l0_6 x5_4).f0)) 1099511627776)))), (wrap64 (1 + (wrap64 (Int.tmod (IntKind.u64.wrap ((rd_T86 l0_6 x5_4).f1)) 1099511627776)))), x144002_58, 4602678819172646912⟩ : S86)]) := ⟨_, rfl⟩
                   replace H : (stopgateref05_Fix.l1 kj58 (wrap64 (x5_4 + 1)) a0_0 a0_1 a0_2 a0_3 l0_4 l0_5 l0_6 (wrap64 (1 + (wrap64 (Int.tmod (IntKind.u64.wrap (a0_0)) 3)))) (wrap64 (Int.tmod (IntKind.u64.wrap (a0_1)) 4)) (wrap64 (1 + (wrap64 (Int.tmod (IntKind.u64.wrap (a0_2)) 6)))) (wrap64 (1 + (wrap64 (Int.tmod (IntKind.u64.wrap (a0_3)) 8)))) t130 x134005_34 y148) = some (r1, r2, r3, r4, r5, r6, r7) := by first | (rw [hy148]; with_reducible exact H) | (have H2_ := (Option.bind_some _ _).symm.trans H; rw [hy148]; with_reducible exact H2_) | (have H2_ := (Option.bind_some _ _).symm.trans H; with_reducible exact H2_) | with_reducible exact H | (rw [hy148]; exact H) | exact H
                   have Ny148 := A0s.mk hy148
                   clear hy148
                   have H' := A0s.mk H
                   clear H
                   have hnb97 := NB143_128.out
                   have hnc97 := NB128_143.out
                   have hnb98 := NB143_129.out
                   have hnc98 := NB129_143.out
                   have hnb99 := NB143_133.out
                   have hnc99 := NB133_143.out
                   have hnb100 := NB143_142.out
                   have hnc100 := NB142_143.out
                   obtain ⟨hcz101_0, hcz101_1, hcz101_2, hcz101_3, hfz101_0, hfz101_1, hfz101_2, hfz101_3⟩ := blk_all4 BK143.out
                   go_wp2_with (first | ((with_reducible refine gC (f := 75) rfl ?_); refine gL (some 112) rfl rfl Try.func75 (by kernel_rfl) rfl #[.float .f64 ((rd_T86 l0_6 x5_4).f3)] rfl (by (try simp only [List.map_toArray, List.map_cons, List.map_nil]); first | done | rfl | (simp only [List.length_drop, List.length_take]; rfl)) ?_; (with_reducible refine (stopgateref02_Right.calls ((rd_T86 l0_6 x5_4).f3) false _ A80.out).mono ?_); rintro e w' ⟨rfl, ⟨nd, rfl⟩⟩; refine ⟨_, rfl, ?_⟩; (try (rw [drewN_self wc]; generalize hq_ : World.drewN wc _ = wc; have n0_ : A0s (Kd.R k176 176 wc w.heap.size (fun _ => True) (.slice Ao10 t130.length co10) t130) := ⟨by rw [← hq_]; exact (by (with_reducible repeat (first | apply Kd.RA | apply Kd.RN | apply Kd.RD)); exact HO_134004.out)⟩; have n1_ : A0s (Kd.R (Kd.int .i64) 3 wc w.heap.size (fun _ => True) u134005 x134005_34) := ⟨by rw [← hq_]; exact (by (with_reducible repeat (first | apply Kd.RA | apply Kd.RN | apply Kd.RD)); exact HO_134005.out)⟩; have n2_ : A0s (Kd.R k86 86 wc w.heap.size (fun k_ => k_ ≠ gb142 ∧ k_ ≠ gb143) u134006 x134006_4) := ⟨by rw [← hq_]; exact (by (with_reducible repeat (first | apply Kd.RA | apply Kd.RN | apply Kd.RD)); exact HO_134006.out)⟩; have n3_ : A0s (wc.heap[gb128]? = some (.cells #[.int .i64 a0_0, .int .i64 a0_1, .int .i64 a0_2, .int .i64 a0_3, .slice A0_4 l0_4.length c0_4, .slice A0_5 l0_5.length c0_5, .slice (some ad141) l0_6.length c0_6] 81 (0, 0))) := ⟨by rw [← hq_]; exact (by (with_reducible repeat (first | apply kN | apply kD | apply kA)); exact BK128.out)⟩; have n4_ : A0s (wc.heap[gb129]? = some (.cells #[.int .i64 0, .int .i64 0, .int .i64 0, .int .i64 0, .slice none 0 0, .slice none 0 0, .slice none 0 0] 81 (0, 0))) := ⟨by rw [← hq_]; exact (by (with_reducible repeat (first | apply kN | apply kD | apply kA)); exact BK129.out)⟩; have n5_ : A0s (wc.heap[gb133]? = some (.cells #[.int .i64 (wrap64 (1 + (wrap64 (Int.tmod (IntKind.u64.wrap (a0_0)) 3)))), .int .i64 (wrap64 (Int.tmod (IntKind.u64.wrap (a0_1)) 4)), .int .i64 (wrap64 (1 + (wrap64 (Int.tmod (IntKind.u64.wrap (a0_2)) 6)))), .int .i64 (wrap64 (1 + (wrap64 (Int.tmod (IntKind.u64.wrap (a0_3)) 8)))), .slice Ao10 t130.length co10, u134005, u134006] 81 (0, 0))) := ⟨by rw [← hq_]; exact (by (with_reducible repeat (first | apply kN | apply kD | apply kA)); exact BK133.out)⟩; have n6_ : A0s (wc.heap[gb142]? = some (.cells #[.int .i64 ((rd_T86 l0_6 x5_4).f0), .int .i64 ((rd_T86 l0_6 x5_4).f1), .int .i64 ((rd_T86 l0_6 x5_4).f2), .float .f64 ((rd_T86 l0_6 x5_4).f3)] 86 (0, 0))) := ⟨by rw [← hq_]; exact (by (with_reducible repeat (first | apply kN | apply kD | apply kA)); exact BK142.out)⟩; have n7_ : A0s (wc.heap[gb143]? = some (.cells #[.int .i64 (wrap64 (1 + (wrap64 (Int.tmod (IntKind.u64.wrap ((rd_T86 l0_6 x5_4).f0)) 1099511627776)))), .int .i64 (wrap64 (1 + (wrap64 (Int.tmod (IntKind.u64.wrap ((rd_T86 l0_6 x5_4).f1)) 1099511627776)))), .int .i64 x144002_58, .float .f64 ((rd_T86 l0_6 x5_4).f3)] 86 (0, 0))) := ⟨by rw [← hq_]; exact (by (with_reducible repeat (first | apply kN | apply kD | apply kA)); exact BK143.out)⟩; have n8_ : A0s (Below w.heap.size w wc) := ⟨by rw [← hq_]; exact (by repeat (first | (with_reducible first | exact HB.out | apply bA | apply bN | apply bD | refine bS ?_ GE128.out | refine bS ?_ GE129.out | refine bS ?_ GE133.out | refine bS ?_ GE142.out | refine bS ?_ GE143.out) | exact HB.out))⟩; clear HO_134004 HO_134005 HO_134006 BK128 BK129 BK133 BK142 BK143 HB hq_; have HO_134004 := n0_; have HO_134005 := n1_; have HO_134006 := n2_; have BK128 := n3_; have BK129 := n4_; have BK133 := n5_; have BK142 := n6_; have BK143 := n7_; have HB := n8_; clear n0_ n1_ n2_ n3_ n4_ n5_ n6_ n7_ n8_)); obtain ⟨hcz102_0, hcz102_1, hcz102_2, hcz102_3, hfz102_0, hfz102_1, hfz102_2, hfz102_3⟩ := blk_all4 BK143.out; have hnb103 := NB133_128.out; have hnc103 := NB128_133.out; have hnb104 := NB133_129.out; have hnc104 := NB129_133.out; have hnb105 := NB133_142.out; have hnc105 := NB142_133.out; obtain ⟨hcz106_0, hcz106_1, hcz106_2, hcz106_3, hcz106_4, hcz106_5, hcz106_6, hfz106_0, hfz106_1, hfz106_2, hfz106_3, hfz106_4, hfz106_5, hfz106_6⟩ := blk_all7 BK133.out) | ((with_reducible refine gate_builtin (b := .append) (xs := #[.tmp 116, .tmp 118]) rfl ?_); at_builtin; refine Kd.R_append k86 (w0 := w) w.heap.size rfl (.tmp 116) (.tmp 118) 79 86 (.agg #[(.int .i64 0), (.int .i64 0), (.int .i64 0), (.float .f64 0)]) 32 rfl Try.underlying79 info86 rfl (by decide) (by omega) u134006 x134006_4 (⟨(wrap64 (1 + (wrap64 (Int.tmod (IntKind.u64.wrap ((rd_T86 l0_6 x5_4).f0)) 1099511627776)))), (wrap64 (1 + (wrap64 (Int.tmod (IntKind.u64.wrap ((rd_T86 l0_6 x5_4).f1)) 1099511627776)))), x144002_58, 4602678819172646912⟩ : S86) [.int .i64 (wrap64 (1 + (wrap64 (Int.tmod (IntKind.u64.wrap ((rd_T86 l0_6 x5_4).f0)) 1099511627776)))), .int .i64 (wrap64 (1 + (wrap64 (Int.tmod (IntKind.u64.wrap ((rd_T86 l0_6 x5_4).f1)) 1099511627776)))), .int .i64 x144002_58, .float .f64 4602678819172646912] (fun k_ => k_ ≠ gb142 ∧ k_ ≠ gb143) (fun _ => False) rfl (by first | (go_simp; done) | (go_simp; rfl)) ?aP (fun _ hk => hk.elim) ?aF ?aO ?aB ?aS ?aL ?_; (case aP => exact k86_mkM _ _ _ (⟨(wrap64 (1 + (wrap64 (Int.tmod (IntKind.u64.wrap ((rd_T86 l0_6 x5_4).f0)) 1099511627776)))), (wrap64 (1 + (wrap64 (Int.tmod (IntKind.u64.wrap ((rd_T86 l0_6 x5_4).f1)) 1099511627776)))), x144002_58, 4602678819172646912⟩ : S86)); (case aB => exact (by repeat (first | (with_reducible first | exact HB.out | apply bA | apply bN | apply bD | refine bS ?_ GE128.out | refine bS ?_ GE129.out | refine bS ?_ GE133.out | refine bS ?_ GE142.out | refine bS ?_ GE143.out) | exact HB.out))); (case aF => exact (fun k_ hk => ⟨Kd.freshB (g := gb142) (o := .cells #[.int .i64 ((rd_T86 l0_6 x5_4).f0), .int .i64 ((rd_T86 l0_6 x5_4).f1), .int .i64 ((rd_T86 l0_6 x5_4).f2), .float .f64 ((rd_T86 l0_6 x5_4).f3)] 86 (0, 0)) (by (with_reducible repeat (first | apply kN | apply kD | apply kA)); refine blk_far ?_ NB142_143.out _; (with_reducible repeat (first | apply kN | apply kD | apply kA)); exact BK142.out) k_ hk, Kd.freshB (g := gb143) (o := .cells #[.int .i64 (wrap64 (1 + (wrap64 (Int.tmod (IntKind.u64.wrap ((rd_T86 l0_6 x5_4).f0)) 1099511627776)))), .int .i64 (wrap64 (1 + (wrap64 (Int.tmod (IntKind.u64.wrap ((rd_T86 l0_6 x5_4).f1)) 1099511627776)))), .int .i64 x144002_58, .float .f64 4602678819172646912] 86 (0, 0)) (by (with_reducible repeat (first | apply kN | apply kD | apply kA)); refine blk_put (cs := #[.int .i64 (wrap64 (1 + (wrap64 (Int.tmod (IntKind.u64.wrap ((rd_T86 l0_6 x5_4).f0)) 1099511627776)))), .int .i64 (wrap64 (1 + (wrap64 (Int.tmod (IntKind.u64.wrap ((rd_T86 l0_6 x5_4).f1)) 1099511627776)))), .int .i64 x144002_58, .float .f64 ((rd_T86 l0_6 x5_4).f3)]) ?_ 3 _ rfl; (with_reducible repeat (first | apply kN | apply kD | apply kA)); exact BK143.out) k_ hk⟩)); (case aO => exact (by (with_reducible repeat (first | apply Kd.RA | apply Kd.RN | apply Kd.RD)); exact Kd.R_mono (Kd.R_far (p := ⟨gb143, 3, none⟩) (Kd.R_mono HO_134006.out (fun k_ hk => (⟨hk, hk.2⟩ : _ ∧ k_ ≠ gb143))) (fun _ hk => hk.2) (.float .f64 4602678819172646912)) (fun _ hk => ⟨hk.1.1, hk.1.2⟩))); (case aS => exact (below_size (by repeat (first | (with_reducible first | exact HB.out | apply bA | apply bN | apply bD | refine bS ?_ GE128.out | refine bS ?_ GE129.out | refine bS ?_ GE133.out | refine bS ?_ GE142.out | refine bS ?_ GE143.out) | exact HB.out)))); (case aL => have := LMc96.out; omega); intro v149 w107 ho hb hg hat; rw [← Ny148.out] at ho; have n0_ := A0s.mk (Kd.R_over' (by (with_reducible repeat (first | apply Kd.RA | apply Kd.RN | apply Kd.RD)); exact (Kd.R_mono (Kd.R_far (p := ⟨gb143, 3, none⟩) (Kd.R_types HO_134004.out BK143.out (by decide)) (fun _ hk => hk.2) (.float .f64 4602678819172646912)) (fun _ h_ => h_.1))) (Kd.R_typed (by (with_reducible repeat (first | apply Kd.RA | apply Kd.RN | apply Kd.RD)); exact (Kd.R_mono (Kd.R_far (p := ⟨gb143, 3, none⟩) (Kd.R_mono HO_134006.out (fun k_ hk => (⟨hk, hk.2⟩ : _ ∧ k_ ≠ gb143))) (fun _ hk => hk.2) (.float .f64 4602678819172646912)) (fun _ h_ => h_.1)))) (by decide) hg); have n1_ := A0s.mk (Kd.R_over' (by (with_reducible repeat (first | apply Kd.RA | apply Kd.RN | apply Kd.RD)); exact (Kd.R_mono (Kd.R_far (p := ⟨gb143, 3, none⟩) (Kd.R_types HO_134005.out BK143.out (by decide)) (fun _ hk => hk.2) (.float .f64 4602678819172646912)) (fun _ h_ => h_.1))) (Kd.R_typed (by (with_reducible repeat (first | apply Kd.RA | apply Kd.RN | apply Kd.RD)); exact (Kd.R_mono (Kd.R_far (p := ⟨gb143, 3, none⟩) (Kd.R_mono HO_134006.out (fun k_ hk => (⟨hk, hk.2⟩ : _ ∧ k_ ≠ gb143))) (fun _ hk => hk.2) (.float .f64 4602678819172646912)) (fun _ h_ => h_.1)))) (by decide) hg); have n2_ := A0s.mk (blk_grown (g := gb128) (o := .cells #[.int .i64 a0_0, .int .i64 a0_1, .int .i64 a0_2, .int .i64 a0_3, .slice A0_4 l0_4.length c0_4, .slice A0_5 l0_5.length c0_5, .slice (some ad141) l0_6.length c0_6] 81 (0, 0)) (by (with_reducible repeat (first | apply kN | apply kD | apply kA)); refine blk_far ?_ NB128_143.out _; (with_reducible repeat (first | apply kN | apply kD | apply kA)); exact BK128.out) hg (Kd.R_ne HO_134006.out BK128.out (by decide))); have n3_ := A0s.mk (blk_grown (g := gb129) (o := .cells #[.int .i64 0, .int .i64 0, .int .i64 0, .int .i64 0, .slice none 0 0, .slice none 0 0, .slice none 0 0] 81 (0, 0)) (by (with_reducible repeat (first | apply kN | apply kD | apply kA)); refine blk_far ?_ NB129_143.out _; (with_reducible repeat (first | apply kN | apply kD | apply kA)); exact BK129.out) hg (Kd.R_ne HO_134006.out BK129.out (by decide))); have n4_ := A0s.mk (blk_grown (g := gb133) (o := .cells #[.int .i64 (wrap64 (1 + (wrap64 (Int.tmod (IntKind.u64.wrap (a0_0)) 3)))), .int .i64 (wrap64 (Int.tmod (IntKind.u64.wrap (a0_1)) 4)), .int .i64 (wrap64 (1 + (wrap64 (Int.tmod (IntKind.u64.wrap (a0_2)) 6)))), .int .i64 (wrap64 (1 + (wrap64 (Int.tmod (IntKind.u64.wrap (a0_3)) 8)))), .slice Ao10 t130.length co10, u134005, u134006] 81 (0, 0)) (by (with_reducible repeat (first | apply kN | apply kD | apply kA)); refine blk_far ?_ NB133_143.out _; (with_reducible repeat (first | apply kN | apply kD | apply kA)); exact BK133.out) hg (Kd.R_ne HO_134006.out BK133.out (by decide))); have n5_ := A0s.mk (blk_grown (g := gb142) (o := .cells #[.int .i64 ((rd_T86 l0_6 x5_4).f0), .int .i64 ((rd_T86 l0_6 x5_4).f1), .int .i64 ((rd_T86 l0_6 x5_4).f2), .float .f64 ((rd_T86 l0_6 x5_4).f3)] 86 (0, 0)) (by (with_reducible repeat (first | apply kN | apply kD | apply kA)); refine blk_far ?_ NB142_143.out _; (with_reducible repeat (first | apply kN | apply kD | apply kA)); exact BK142.out) hg (Kd.R_away HO_134006.out (fun _ hk => hk.1))); have n6_ := A0s.mk (blk_grown (g := gb143) (o := .cells #[.int .i64 (wrap64 (1 + (wrap64 (Int.tmod (IntKind.u64.wrap ((rd_T86 l0_6 x5_4).f0)) 1099511627776)))), .int .i64 (wrap64 (1 + (wrap64 (Int.tmod (IntKind.u64.wrap ((rd_T86 l0_6 x5_4).f1)) 1099511627776)))), .int .i64 x144002_58, .float .f64 4602678819172646912] 86 (0, 0)) (by (with_reducible repeat (first | apply kN | apply kD | apply kA)); refine blk_put (cs := #[.int .i64 (wrap64 (1 + (wrap64 (Int.tmod (IntKind.u64.wrap ((rd_T86 l0_6 x5_4).f0)) 1099511627776)))), .int .i64 (wrap64 (1 + (wrap64 (Int.tmod (IntKind.u64.wrap ((rd_T86 l0_6 x5_4).f1)) 1099511627776)))), .int .i64 x144002_58, .float .f64 ((rd_T86 l0_6 x5_4).f3)]) ?_ 3 _ rfl; (with_reducible repeat (first | apply kN | apply kD | apply kA)); exact BK143.out) hg (Kd.R_away HO_134006.out (fun _ hk => hk.2))); have n7_ := A0s.mk (hb); have n8_ := A0s.mk (ho); clear HO_134004; clear HO_134005; clear BK128; clear BK129; clear BK133; clear BK142; clear BK143; clear HB; clear HO_134006; have HO_134004 := n0_; have HO_134005 := n1_; have BK128 := n2_; have BK129 := n3_; have BK133 := n4_; have BK142 := n5_; have BK143 := n6_; have HB := n7_; have HO150 := n8_; clear n0_ n1_ n2_ n3_ n4_ n5_ n6_ n7_ n8_; clear ho hb hg hat; obtain ⟨Ao108, co108, eo108⟩ := Kd.R_slice HO150.out; subst eo108; obtain ⟨hcz109_0, hcz109_1, hcz109_2, hcz109_3, hcz109_4, hcz109_5, hcz109_6, hfz109_0, hfz109_1, hfz109_2, hfz109_3, hfz109_4, hfz109_5, hfz109_6⟩ := blk_all7 BK133.out))
                   go_roundg kj58
                   case measure => have := HK1.out; have := HJ17.out; have := HJ34.out; have := HK4.out; have := HJ47.out; have := HJ58.out; omega
                   case rel => exact ⟨(wrap64 (x5_4 + 1)), (y148), (.slice Ao108 y148.length co108), (by first | rfl | (simp; done) | (simp [*]; done)), H', ⟨by have := HK1.out; have := HJ17.out; have := HJ34.out; have := HK4.out; have := HJ47.out; have := HJ58.out; omega⟩, ⟨by (with_reducible repeat (first | apply Kd.RA | apply Kd.RN | apply Kd.RD)); exact Kd.R_mono (Kd.R_far (p := ⟨gb133, 6, none⟩) (Kd.R_types HO_134004.out BK133.out (by decide)) (fun _ hk => hk.2) (.slice Ao108 y148.length co108)) (fun _ hk => trivial)⟩, ⟨by (with_reducible repeat (first | apply Kd.RA | apply Kd.RN | apply Kd.RD)); exact Kd.R_mono (Kd.R_far (p := ⟨gb133, 6, none⟩) (Kd.R_types HO_134005.out BK133.out (by decide)) (fun _ hk => hk.2) (.slice Ao108 y148.length co108)) (fun _ hk => trivial)⟩, ⟨by (with_reducible repeat (first | apply Kd.RA | apply Kd.RN | apply Kd.RD)); exact Kd.R_mono (Kd.R_far (p := ⟨gb133, 6, none⟩) (Kd.R_types HO150.out BK133.out (by decide)) (fun _ hk => hk.2) (.slice Ao108 y148.length co108)) (fun _ hk => trivial)⟩, ⟨by (with_reducible repeat (first | apply kN | apply kD | apply kA)); refine blk_far ?_ NB128_133.out _; (with_reducible repeat (first | apply kN | apply kD | apply kA)); exact BK128.out⟩, ⟨by (with_reducible repeat (first | apply kN | apply kD | apply kA)); refine blk_far ?_ NB129_133.out _; (with_reducible repeat (first | apply kN | apply kD | apply kA)); exact BK129.out⟩, ⟨by (with_reducible repeat (first | apply kN | apply kD | apply kA)); refine blk_put (cs := #[.int .i64 (wrap64 (1 + (wrap64 (Int.tmod (IntKind.u64.wrap (a0_0)) 3)))), .int .i64 (wrap64 (Int.tmod (IntKind.u64.wrap (a0_1)) 4)), .int .i64 (wrap64 (1 + (wrap64 (Int.tmod (IntKind.u64.wrap (a0_2)) 6)))), .int .i64 (wrap64 (1 + (wrap64 (Int.tmod (IntKind.u64.wrap (a0_3)) 8)))), .slice Ao10 t130.length co10, u134005, u134006]) ?_ 6 _ rfl; (with_reducible repeat (first | apply kN | apply kD | apply kA)); exact BK133.out⟩, ⟨by repeat (first | (with_reducible first | exact HB.out | apply bA | apply bN | apply bD | refine bS ?_ GE128.out | refine bS ?_ GE129.out | refine bS ?_ GE133.out | refine bS ?_ GE142.out | refine bS ?_ GE143.out) | exact HB.out)⟩⟩
                  ·rw [if_neg c96] at H
                   exact absurd H (by simp)
              ·rw [if_neg c58] at H
               exact absurd H (by simp)
             ·rw [if_neg c57] at H
              exact absurd H (by simp)
            ·replace c56 := Bool.eq_false_iff.mpr c56
             subst c56
             have H1 : (if (x134006_4.length : Int) = 0 then (some ((wrap64 (1 + (wrap64 (Int.tmod (IntKind.u64.wrap (a0_0)) 3)))), (wrap64 (Int.tmod (IntKind.u64.wrap (a0_1)) 4)), (wrap64 (1 + (wrap64 (Int.tmod (IntKind.u64.wrap (a0_2)) 6)))), (wrap64 (1 + (wrap64 (Int.tmod (IntKind.u64.wrap (a0_3)) 8)))), t130, x134005_34, (([(⟨10, 100, 1000, 4602678819172646912⟩ : S86)] : List (S86))))) else (some ((wrap64 (1 + (wrap64 (Int.tmod (IntKind.u64.wrap (a0_0)) 3)))), (wrap64 (Int.tmod (IntKind.u64.wrap (a0_1)) 4)), (wrap64 (1 + (wrap64 (Int.tmod (IntKind.u64.wrap (a0_2)) 6)))), (wrap64 (1 + (wrap64 (Int.tmod (IntKind.u64.wrap (a0_3)) 8)))), t130, x134005_34, x134006_4))) = some (r1, r2, r3, r4, r5, r6, r7) := by rw [if_neg (show ¬ (false = true) by decide)] at H; exact H
             clear H
             have H := H1
             clear H1
             by_cases c110 : (x134006_4.length : Int) = 0
             ·rw [if_pos c110] at H
              have c110b0 : ((x134006_4.length : Int) == 0) = true := beq_iff_eq.mpr c110
              have c110b1 : ((x134006_4.length : Int) != 0) = false := bne_eq_false_iff_eq.mpr c110
              clear c110
              obtain ⟨y151, hy151⟩ : ∃ y_ : List (S86), y_ = (([(⟨10, 100, 1000, 4602678819172646912⟩ : S86)] : List (S86))) := ⟨_, rfl⟩
              replace H : (some ((wrap64 (1 + (wrap64 (Int.tmod (IntKind.u64.wrap (a0_0)) 3)))), (wrap64 (Int.tmod (IntKind.u64.wrap (a0_1)) 4)), (wrap64 (1 + (wrap64 (Int.tmod (IntKind.u64.wrap (a0_2)) 6)))), (wrap64 (1 + (wrap64 (Int.tmod (IntKind.u64.wrap (a0_3)) 8)))), t130, x134005_34, y151)) = some (r1, r2, r3, r4, r5, r6, r7) := by first | (rw [hy151]; with_reducible exact H) | (have H2_ := (Option.bind_some _ _).symm.trans H; rw [hy151]; with_reducible exact H2_) | (have H2_ := (Option.bind_some _ _).symm.trans H; with_reducible exact H2_) | with_reducible exact H | (rw [hy151]; exact H) | exact H
              have Ny151 := A0s.mk hy151
              clear hy151
              simp only [Option.some.injEq, Prod.mk.injEq] at H
              obtain ⟨rfl, rfl, rfl, rfl, rfl, rfl, rfl⟩ := H
              have hnb111 := NB133_128.out
              have hnc111 := NB128_133.out
              have hnb112 := NB133_129.out
              have hnc112 := NB129_133.out
              obtain ⟨hcz113_0, hcz113_1, hcz113_2, hcz113_3, hcz113_4, hcz113_5, hcz113_6, hfz113_0, hfz113_1, hfz113_2, hfz113_3, hfz113_4, hfz113_5, hfz113_6⟩ := blk_all7 BK133.out
              obtain ⟨Ao114, co114, eo114⟩ := Kd.R_slice HO_134006.out
              subst eo114
              go_wp2_with (first | ((with_reducible refine gate_dst (N := 126) rfl ?_); refine Kd.R_lit k86 _ 86 ?hg (N := 126) ?hd (xs := ([(⟨10, 100, 1000, 4602678819172646912⟩ : S86)] : List (S86))) (inner := [.int .i64 10, .int .i64 100, .int .i64 1000, .float .f64 4602678819172646912]) (ok := fun _ => True) (okp := fun _ => True) ?hr ?hp (fun _ hk => hk) trivial (Below.refl _ _) (Nat.le_refl _) (by simp) ?_; (case hd => rfl); (case hg => rfl); (case hr => first | (go_simp; done) | (go_simp; rfl)); (case hp => exact (Reps.c4 (show Kd.M k86 _ _ _ (⟨10, 100, 1000, 4602678819172646912⟩ : S86) [.int .i64 10, .int .i64 100, .int .i64 1000, .float .f64 4602678819172646912] from (k86_mkM _ _ _ (⟨10, 100, 1000, 4602678819172646912⟩ : S86) )) (Reps.none _ _))); intro v152 w115 ho116 hb hg_ hnew_; clear hg_ hnew_; (first | rw [← Ny151.out] at ho116 | (simp only [Int.reduceToNat] at ho116; rw [← Ny151.out] at ho116)); have n0_ := A0s.mk (Kd.R_below (by (with_reducible repeat (first | apply Kd.RA | apply Kd.RN | apply Kd.RD)); exact HO_134004.out) hb); have n1_ := A0s.mk (Kd.R_below (by (with_reducible repeat (first | apply Kd.RA | apply Kd.RN | apply Kd.RD)); exact HO_134005.out) hb); have n2_ := A0s.mk (Kd.R_elder' (by (with_reducible repeat (first | apply Kd.RA | apply Kd.RN | apply Kd.RD)); exact HO_134006.out) (Kd.R_base ho116) hb); have n3_ := A0s.mk (Kd.R_lower (Kd.R_new' ho116 (Kd.R_lt (by (with_reducible repeat (first | apply Kd.RA | apply Kd.RN | apply Kd.RD)); exact HO_134006.out))) (below_size (by repeat (first | (with_reducible first | exact HB.out | apply bA | apply bN | apply bD | refine bS ?_ GE128.out | refine bS ?_ GE129.out | refine bS ?_ GE133.out) | exact HB.out)))); have n4_ := A0s.mk (blk_below (g := gb128) (o := .cells #[.int .i64 a0_0, .int .i64 a0_1, .int .i64 a0_2, .int .i64 a0_3, .slice A0_4 l0_4.length c0_4, .slice A0_5 l0_5.length c0_5, .slice A0_6 l0_6.length c0_6] 81 (0, 0)) (by (with_reducible repeat (first | apply kN | apply kD | apply kA)); exact BK128.out) hb); have n5_ := A0s.mk (blk_below (g := gb129) (o := .cells #[.int .i64 0, .int .i64 0, .int .i64 0, .int .i64 0, .slice none 0 0, .slice none 0 0, .slice none 0 0] 81 (0, 0)) (by (with_reducible repeat (first | apply kN | apply kD | apply kA)); exact BK129.out) hb); have n6_ := A0s.mk (blk_below (g := gb133) (o := .cells #[.int .i64 (wrap64 (1 + (wrap64 (Int.tmod (IntKind.u64.wrap (a0_0)) 3)))), .int .i64 (wrap64 (Int.tmod (IntKind.u64.wrap (a0_1)) 4)), .int .i64 (wrap64 (1 + (wrap64 (Int.tmod (IntKind.u64.wrap (a0_2)) 6)))), .int .i64 (wrap64 (1 + (wrap64 (Int.tmod (IntKind.u64.wrap (a0_3)) 8)))), .slice Ao10 t130.length co10, u134005, .slice Ao114 x134006_4.length co114] 81 (0, 0)) (by (with_reducible repeat (first | apply kN | apply kD | apply kA)); exact BK133.out) hb); have n7_ := A0s.mk (below_step (by repeat (first | (with_reducible first | exact HB.out | apply bA | apply bN | apply bD | refine bS ?_ GE128.out | refine bS ?_ GE129.out | refine bS ?_ GE133.out) | exact HB.out)) hb); clear HO_134004; clear HO_134005; clear HO_134006; clear BK128; clear BK129; clear BK133; clear HB; have HO_134004 := n0_; have HO_134005 := n1_; have HO_134006 := n2_; have HO153 := n3_; have BK128 := n4_; have BK129 := n5_; have BK133 := n6_; have HB := n7_; clear n0_ n1_ n2_ n3_ n4_ n5_ n6_ n7_; clear hb ho116; obtain ⟨Ao117, co117, eo117⟩ := Kd.R_slice HO153.out; subst eo117; obtain ⟨hcz118_0, hcz118_1, hcz118_2, hcz118_3, hcz118_4, hcz118_5, hcz118_6, hfz118_0, hfz118_1, hfz118_2, hfz118_3, hfz118_4, hfz118_5, hfz118_6⟩ := blk_all7 BK133.out; have hnb119 := NB129_128.out; have hnc119 := NB128_129.out; obtain ⟨hcz120_0, hcz120_1, hcz120_2, hcz120_3, hcz120_4, hcz120_5, hcz120_6, hfz120_0, hfz120_1, hfz120_2, hfz120_3, hfz120_4, hfz120_5, hfz120_6⟩ := blk_all7 BK129.out; obtain ⟨Ao121, co121, eo121⟩ := Kd.R_slice HO_134005.out; subst eo121))
              refine bodyPost_ret (results_cell_row rfl _ _ gb129 81 #[.int .i64 (wrap64 (1 + (wrap64 (Int.tmod (IntKind.u64.wrap (a0_0)) 3)))), .int .i64 (wrap64 (Int.tmod (IntKind.u64.wrap (a0_1)) 4)), .int .i64 (wrap64 (1 + (wrap64 (Int.tmod (IntKind.u64.wrap (a0_2)) 6)))), .int .i64 (wrap64 (1 + (wrap64 (Int.tmod (IntKind.u64.wrap (a0_3)) 8)))), .slice Ao10 t130.length co10, .slice Ao121 x134005_34.length co121, .slice Ao117 y151.length co117] (0, 0) _ rfl (by (with_reducible repeat (first | apply kN | apply kD | apply kA)); refine blk_put (cs := #[.int .i64 (wrap64 (1 + (wrap64 (Int.tmod (IntKind.u64.wrap (a0_0)) 3)))), .int .i64 (wrap64 (Int.tmod (IntKind.u64.wrap (a0_1)) 4)), .int .i64 (wrap64 (1 + (wrap64 (Int.tmod (IntKind.u64.wrap (a0_2)) 6)))), .int .i64 (wrap64 (1 + (wrap64 (Int.tmod (IntKind.u64.wrap (a0_3)) 8)))), .slice Ao10 t130.length co10, .slice Ao121 x134005_34.length co121, .slice none 0 0]) ?_ 6 _ rfl; (with_reducible repeat (first | apply kN | apply kD | apply kA)); refine blk_put (cs := #[.int .i64 (wrap64 (1 + (wrap64 (Int.tmod (IntKind.u64.wrap (a0_0)) 3)))), .int .i64 (wrap64 (Int.tmod (IntKind.u64.wrap (a0_1)) 4)), .int .i64 (wrap64 (1 + (wrap64 (Int.tmod (IntKind.u64.wrap (a0_2)) 6)))), .int .i64 (wrap64 (1 + (wrap64 (Int.tmod (IntKind.u64.wrap (a0_3)) 8)))), .slice Ao10 t130.length co10, .slice none 0 0, .slice none 0 0]) ?_ 5 _ rfl; (with_reducible repeat (first | apply kN | apply kD | apply kA)); refine blk_put (cs := #[.int .i64 (wrap64 (1 + (wrap64 (Int.tmod (IntKind.u64.wrap (a0_0)) 3)))), .int .i64 (wrap64 (Int.tmod (IntKind.u64.wrap (a0_1)) 4)), .int .i64 (wrap64 (1 + (wrap64 (Int.tmod (IntKind.u64.wrap (a0_2)) 6)))), .int .i64 (wrap64 (1 + (wrap64 (Int.tmod (IntKind.u64.wrap (a0_3)) 8)))), .slice none 0 0, .slice none 0 0, .slice none 0 0]) ?_ 4 _ rfl; (with_reducible repeat (first | apply kN | apply kD | apply kA)); refine blk_put (cs := #[.int .i64 (wrap64 (1 + (wrap64 (Int.tmod (IntKind.u64.wrap (a0_0)) 3)))), .int .i64 (wrap64 (Int.tmod (IntKind.u64.wrap (a0_1)) 4)), .int .i64 (wrap64 (1 + (wrap64 (Int.tmod (IntKind.u64.wrap (a0_2)) 6)))), .int .i64 0, .slice none 0 0, .slice none 0 0, .slice none 0 0]) ?_ 3 _ rfl; (with_reducible repeat (first | apply kN | apply kD | apply kA)); refine blk_put (cs := #[.int .i64 (wrap64 (1 + (wrap64 (Int.tmod (IntKind.u64.wrap (a0_0)) 3)))), .int .i64 (wrap64 (Int.tmod (IntKind.u64.wrap (a0_1)) 4)), .int .i64 0, .int .i64 0, .slice none 0 0, .slice none 0 0, .slice none 0 0]) ?_ 2 _ rfl; (with_reducible repeat (first | apply kN | apply kD | apply kA)); refine blk_put (cs := #[.int .i64 (wrap64 (1 + (wrap64 (Int.tmod (IntKind.u64.wrap (a0_0)) 3)))), .int .i64 0, .int .i64 0, .int .i64 0, .slice none 0 0, .slice none 0 0, .slice none 0 0]) ?_ 1 _ rfl; (with_reducible repeat (first | apply kN | apply kD | apply kA)); refine blk_put (cs := #[.int .i64 0, .int .i64 0, .int .i64 0, .int .i64 0, .slice none 0 0, .slice none 0 0, .slice none 0 0]) ?_ 0 _ rfl; (with_reducible repeat (first | apply kN | apply kD | apply kA)); refine blk_far ?_ NB129_133.out _; (with_reducible repeat (first | apply kN | apply kD | apply kA)); exact BK129.out) Try.underlying81 rfl (by kernel_rfl)) rfl ?_
              exact ⟨_, _, _, by first | rfl | (simp [errW_none, errW_some] <;> rfl) | (simp [*, errW_none, errW_some] <;> rfl), by (with_reducible repeat (first | apply Kd.RA | apply Kd.RN | apply Kd.RD)); exact Kd.R_mono (Kd.R_far (p := ⟨gb129, 6, none⟩) (Kd.R_far (p := ⟨gb129, 5, none⟩) (Kd.R_far (p := ⟨gb129, 4, none⟩) (Kd.R_far (p := ⟨gb129, 3, none⟩) (Kd.R_far (p := ⟨gb129, 2, none⟩) (Kd.R_far (p := ⟨gb129, 1, none⟩) (Kd.R_far (p := ⟨gb129, 0, none⟩) (Kd.R_far (p := ⟨gb133, 6, none⟩) (Kd.R_types (Kd.R_types HO_134004.out BK133.out (by decide)) BK129.out (by decide)) (fun _ hk => hk.1.2) (.slice Ao117 y151.length co117)) (fun _ hk => hk.2) (.int .i64 (wrap64 (1 + (wrap64 (Int.tmod (IntKind.u64.wrap (a0_0)) 3)))))) (fun _ hk => hk.2) (.int .i64 (wrap64 (Int.tmod (IntKind.u64.wrap (a0_1)) 4)))) (fun _ hk => hk.2) (.int .i64 (wrap64 (1 + (wrap64 (Int.tmod (IntKind.u64.wrap (a0_2)) 6)))))) (fun _ hk => hk.2) (.int .i64 (wrap64 (1 + (wrap64 (Int.tmod (IntKind.u64.wrap (a0_3)) 8)))))) (fun _ hk => hk.2) (.slice Ao10 t130.length co10)) (fun _ hk => hk.2) (.slice Ao121 x134005_34.length co121)) (fun _ hk => hk.2) (.slice Ao117 y151.length co117)) (fun _ hk => trivial), by (with_reducible repeat (first | apply Kd.RA | apply Kd.RN | apply Kd.RD)); exact Kd.R_mono (Kd.R_far (p := ⟨gb129, 6, none⟩) (Kd.R_far (p := ⟨gb129, 5, none⟩) (Kd.R_far (p := ⟨gb129, 4, none⟩) (Kd.R_far (p := ⟨gb129, 3, none⟩) (Kd.R_far (p := ⟨gb129, 2, none⟩) (Kd.R_far (p := ⟨gb129, 1, none⟩) (Kd.R_far (p := ⟨gb129, 0, none⟩) (Kd.R_far (p := ⟨gb133, 6, none⟩) (Kd.R_types (Kd.R_types HO_134005.out BK133.out (by decide)) BK129.out (by decide)) (fun _ hk => hk.1.2) (.slice Ao117 y151.length co117)) (fun _ hk => hk.2) (.int .i64 (wrap64 (1 + (wrap64 (Int.tmod (IntKind.u64.wrap (a0_0)) 3)))))) (fun _ hk => hk.2) (.int .i64 (wrap64 (Int.tmod (IntKind.u64.wrap (a0_1)) 4)))) (fun _ hk => hk.2) (.int .i64 (wrap64 (1 + (wrap64 (Int.tmod (IntKind.u64.wrap (a0_2)) 6)))))) (fun _ hk => hk.2) (.int .i64 (wrap64 (1 + (wrap64 (Int.tmod (IntKind.u64.wrap (a0_3)) 8)))))) (fun _ hk => hk.2) (.slice Ao10 t130.length co10)) (fun _ hk => hk.2) (.slice Ao121 x134005_34.length co121)) (fun _ hk => hk.2) (.slice Ao117 y151.length co117)) (fun _ hk => trivial), by (with_reducible repeat (first | apply Kd.RA | apply Kd.RN | apply Kd.RD)); exact Kd.R_mono (Kd.R_far (p := ⟨gb129, 6, none⟩) (Kd.R_far (p := ⟨gb129, 5, none⟩) (Kd.R_far (p := ⟨gb129, 4, none⟩) (Kd.R_far (p := ⟨gb129, 3, none⟩) (Kd.R_far (p := ⟨gb129, 2, none⟩) (Kd.R_far (p := ⟨gb129, 1, none⟩) (Kd.R_far (p := ⟨gb129, 0, none⟩) (Kd.R_far (p := ⟨gb133, 6, none⟩) (Kd.R_types (Kd.R_types HO153.out BK133.out (by decide)) BK129.out (by decide)) (fun _ hk => hk.1.2) (.slice Ao117 y151.length co117)) (fun _ hk => hk.2) (.int .i64 (wrap64 (1 + (wrap64 (Int.tmod (IntKind.u64.wrap (a0_0)) 3)))))) (fun _ hk => hk.2) (.int .i64 (wrap64 (Int.tmod (IntKind.u64.wrap (a0_1)) 4)))) (fun _ hk => hk.2) (.int .i64 (wrap64 (1 + (wrap64 (Int.tmod (IntKind.u64.wrap (a0_2)) 6)))))) (fun _ hk => hk.2) (.int .i64 (wrap64 (1 + (wrap64 (Int.tmod (IntKind.u64.wrap (a0_3)) 8)))))) (fun _ hk => hk.2) (.slice Ao10 t130.length co10)) (fun _ hk => hk.2) (.slice Ao121 x134005_34.length co121)) (fun _ hk => hk.2) (.slice Ao117 y151.length co117)) (fun _ hk => trivial), by repeat (first | (with_reducible first | exact HB.out | apply bA | apply bN | apply bD | refine bS ?_ GE128.out | refine bS ?_ GE129.out | refine bS ?_ GE133.out) | exact HB.out)⟩
             ·rw [if_neg c110] at H
              have c110b0 : ((x134006_4.length : Int) == 0) = false := beq_eq_false_iff_ne.mpr c110
              have c110b1 : ((x134006_4.length : Int) != 0) = true := bne_iff_ne.mpr c110
              have c110b2 : ¬ (x134006_4 = []) := fun h_ => c110 (by rw [h_]; rfl)
              simp only [Option.some.injEq, Prod.mk.injEq] at H
              obtain ⟨rfl, rfl, rfl, rfl, rfl, rfl, rfl⟩ := H
              have hnb122 := NB133_128.out
              have hnc122 := NB128_133.out
              have hnb123 := NB133_129.out
              have hnc123 := NB129_133.out
              obtain ⟨hcz124_0, hcz124_1, hcz124_2, hcz124_3, hcz124_4, hcz124_5, hcz124_6, hfz124_0, hfz124_1, hfz124_2, hfz124_3, hfz124_4, hfz124_5, hfz124_6⟩ := blk_all7 BK133.out
              obtain ⟨Ao125, co125, eo125⟩ := Kd.R_slice HO_134006.out
              subst eo125
              have hnb126 := NB129_128.out
              have hnc126 := NB128_129.out
              obtain ⟨hcz127_0, hcz127_1, hcz127_2, hcz127_3, hcz127_4, hcz127_5, hcz127_6, hfz127_0, hfz127_1, hfz127_2, hfz127_3, hfz127_4, hfz127_5, hfz127_6⟩ := blk_all7 BK129.out
              obtain ⟨Ao128, co128, eo128⟩ := Kd.R_slice HO_134005.out
              subst eo128
              go_wp2
              refine bodyPost_ret (results_cell_row rfl _ _ gb129 81 #[.int .i64 (wrap64 (1 + (wrap64 (Int.tmod (IntKind.u64.wrap (a0_0)) 3)))), .int .i64 (wrap64 (Int.tmod (IntKind.u64.wrap (a0_1)) 4)), .int .i64 (wrap64 (1 + (wrap64 (Int.tmod (IntKind.u64.wrap (a0_2)) 6)))), .int .i64 (wrap64 (1 + (wrap64 (Int.tmod (IntKind.u64.wrap (a0_3)) 8)))), .slice Ao10 t130.length co10, .slice Ao128 x134005_34.length co128, .slice Ao125 x134006_4.length co125] (0, 0) _ rfl (by (with_reducible repeat (first | apply kN | apply kD | apply kA)); refine blk_put (cs := #[.int .i64 (wrap64 (1 + (wrap64 (Int.tmod (IntKind.u64.wrap (a0_0)) 3)))), .int .i64 (wrap64 (Int.tmod (IntKind.u64.wrap (a0_1)) 4)), .int .i64 (wrap64 (1 + (wrap64 (Int.tmod (IntKind.u64.wrap (a0_2)) 6)))), .int .i64 (wrap64 (1 + (wrap64 (Int.tmod (IntKind.u64.wrap (a0_3)) 8)))), .slice Ao10 t130.length co10, .slice Ao128 x134005_34.length co128, .slice none 0 0]) ?_ 6 _ rfl; (with_reducible repeat (first | apply kN | apply kD | apply kA)); refine blk_put (cs := #[.int .i64 (wrap64 (1 + (wrap64 (Int.tmod (IntKind.u64.wrap (a0_0)) 3)))), .int .i64 (wrap64 (Int.tmod (IntKind.u64.wrap (a0_1)) 4)), .int .i64 (wrap64 (1 + (wrap64 (Int.tmod (IntKind.u64.wrap (a0_2)) 6)))), .int .i64 (wrap64 (1 + (wrap64 (Int.tmod (IntKind.u64.wrap (a0_3)) 8)))), .slice Ao10 t130.length co10, .slice none 0 0, .slice none 0 0]) ?_ 5 _ rfl; (with_reducible repeat (first | apply kN | apply kD | apply kA)); refine blk_put (cs := #[.int .i64 (wrap64 (1 + (wrap64 (Int.tmod (IntKind.u64.wrap (a0_0)) 3)))), .int .i64 (wrap64 (Int.tmod (IntKind.u64.wrap (a0_1)) 4)), .int .i64 (wrap64 (1 + (wrap64 (Int.tmod (IntKind.u64.wrap (a0_2)) 6)))), .int .i64 (wrap64 (1 + (wrap64 (Int.tmod (IntKind.u64.wrap (a0_3)) 8)))), .slice none 0 0, .slice none 0 0, .slice none 0 0]) ?_ 4 _ rfl; (with_reducible repeat (first | apply kN | apply kD | apply kA)); refine blk_put (cs := #[.int .i64 (wrap64 (1 + (wrap64 (Int.tmod (IntKind.u64.wrap (a0_0)) 3)))), .int .i64 (wrap64 (Int.tmod (IntKind.u64.wrap (a0_1)) 4)), .int .i64 (wrap64 (1 + (wrap64 (Int.tmod (IntKind.u64.wrap (a0_2)) 6)))), .int .i64 0, .slice none 0 0, .slice none 0 0, .slice none 0 0]) ?_ 3 _ rfl; (with_reducible repeat (first | apply kN | apply kD | apply kA)); refine blk_put (cs := #[.int .i64 (wrap64 (1 + (wrap64 (Int.tmod (IntKind.u64.wrap (a0_0)) 3)))), .int .i64 (wrap64 (Int.tmod (IntKind.u64.wrap (a0_1)) 4)), .int .i64 0, .int .i64 0, .slice none 0 0, .slice none 0 0, .slice none 0 0]) ?_ 2 _ rfl; (with_reducible repeat (first | apply kN | apply kD | apply kA)); refine blk_put (cs := #[.int .i64 (wrap64 (1 + (wrap64 (Int.tmod (IntKind.u64.wrap (a0_0)) 3)))), .int .i64 0, .int .i64 0, .int .i64 0, .slice none 0 0, .slice none 0 0, .slice none 0 0]) ?_ 1 _ rfl; (with_reducible repeat (first | apply kN | apply kD | apply kA)); refine blk_put (cs := #[.int .i64 0, .int .i64 0, .int .i64 0, .int .i64 0, .slice none 0 0, .slice none 0 0, .slice none 0 0]) ?_ 0 _ rfl; (with_reducible repeat (first | apply kN | apply kD | apply kA)); exact BK129.out) Try.underlying81 rfl (by kernel_rfl)) rfl ?_
              exact ⟨_, _, _, by first | rfl | (simp [errW_none, errW_some] <;> rfl) | (simp [*, errW_none, errW_some] <;> rfl), by (with_reducible repeat (first | apply Kd.RA | apply Kd.RN | apply Kd.RD)); exact Kd.R_mono (Kd.R_far (p := ⟨gb129, 6, none⟩) (Kd.R_far (p := ⟨gb129, 5, none⟩) (Kd.R_far (p := ⟨gb129, 4, none⟩) (Kd.R_far (p := ⟨gb129, 3, none⟩) (Kd.R_far (p := ⟨gb129, 2, none⟩) (Kd.R_far (p := ⟨gb129, 1, none⟩) (Kd.R_far (p := ⟨gb129, 0, none⟩) (Kd.R_types HO_134004.out BK129.out (by decide)) (fun _ hk => hk.2) (.int .i64 (wrap64 (1 + (wrap64 (Int.tmod (IntKind.u64.wrap (a0_0)) 3)))))) (fun _ hk => hk.2) (.int .i64 (wrap64 (Int.tmod (IntKind.u64.wrap (a0_1)) 4)))) (fun _ hk => hk.2) (.int .i64 (wrap64 (1 + (wrap64 (Int.tmod (IntKind.u64.wrap (a0_2)) 6)))))) (fun _ hk => hk.2) (.int .i64 (wrap64 (1 + (wrap64 (Int.tmod (IntKind.u64.wrap (a0_3)) 8)))))) (fun _ hk => hk.2) (.slice Ao10 t130.length co10)) (fun _ hk => hk.2) (.slice Ao128 x134005_34.length co128)) (fun _ hk => hk.2) (.slice Ao125 x134006_4.length co125)) (fun _ hk => trivial), by (with_reducible repeat (first | apply Kd.RA | apply Kd.RN | apply Kd.RD)); exact Kd.R_mono (Kd.R_far (p := ⟨gb129, 6, none⟩) (Kd.R_far (p := ⟨gb129, 5, none⟩) (Kd.R_far (p := ⟨gb129, 4, none⟩) (Kd.R_far (p := ⟨gb129, 3, none⟩) (Kd.R_far (p := ⟨gb129, 2, none⟩) (Kd.R_far (p := ⟨gb129, 1, none⟩) (Kd.R_far (p := ⟨gb129, 0, none⟩) (Kd.R_types HO_134005.out BK129.out (by decide)) (fun _ hk => hk.2) (.int .i64 (wrap64 (1 + (wrap64 (Int.tmod (IntKind.u64.wrap (a0_0)) 3)))))) (fun _ hk => hk.2) (.int .i64 (wrap64 (Int.tmod (IntKind.u64.wrap (a0_1)) 4)))) (fun _ hk => hk.2) (.int .i64 (wrap64 (1 + (wrap64 (Int.tmod (IntKind.u64.wrap (a0_2)) 6)))))) (fun _ hk => hk.2) (.int .i64 (wrap64 (1 + (wrap64 (Int.tmod (IntKind.u64.wrap (a0_3)) 8)))))) (fun _ hk => hk.2) (.slice Ao10 t130.length co10)) (fun _ hk => hk.2) (.slice Ao128 x134005_34.length co128)) (fun _ hk => hk.2) (.slice Ao125 x134006_4.length co125)) (fun _ hk => trivial), by (with_reducible repeat (first | apply Kd.RA | apply Kd.RN | apply Kd.RD)); exact Kd.R_mono (Kd.R_far (p := ⟨gb129, 6, none⟩) (Kd.R_far (p := ⟨gb129, 5, none⟩) (Kd.R_far (p := ⟨gb129, 4, none⟩) (Kd.R_far (p := ⟨gb129, 3, none⟩) (Kd.R_far (p := ⟨gb129, 2, none⟩) (Kd.R_far (p := ⟨gb129, 1, none⟩) (Kd.R_far (p := ⟨gb129, 0, none⟩) (Kd.R_types HO_134006.out BK129.out (by decide)) (fun _ hk => hk.2) (.int .i64 (wrap64 (1 + (wrap64 (Int.tmod (IntKind.u64.wrap (a0_0)) 3)))))) (fun _ hk => hk.2) (.int .i64 (wrap64 (Int.tmod (IntKind.u64.wrap (a0_1)) 4)))) (fun _ hk => hk.2) (.int .i64 (wrap64 (1 + (wrap64 (Int.tmod (IntKind.u64.wrap (a0_2)) 6)))))) (fun _ hk => hk.2) (.int .i64 (wrap64 (1 + (wrap64 (Int.tmod (IntKind.u64.wrap (a0_3)) 8)))))) (fun _ hk => hk.2) (.slice Ao10 t130.length co10)) (fun _ hk => hk.2) (.slice Ao128 x134005_34.length co128)) (fun _ hk => hk.2) (.slice Ao125 x134006_4.length co125)) (fun _ hk => trivial), by repeat (first | (with_reducible first | exact HB.out | apply bA | apply bN | apply bD | refine bS ?_ GE128.out | refine bS ?_ GE129.out | refine bS ?_ GE133.out) | exact HB.out)⟩

end Go.Proofs.Ytgikjgekdeaneaa.QRulesLooks
