/- Printed by wip/gen/myprint.py, a program of this session, for this claim: functions of the program as Lean functions, each with a proof that the Go code comes to its answers. -/
import Derived.Test.YtnodcekkbbmfnaaProg
import Derived.Below
import Derived.Deep.Draws
import Derived.Deep.AppendLies
import Derived.Maps.AppendAt
import Derived.OwnWalk
import Derived.Laws.BytesArg
import Derived.Laws.MakeOwn
import Derived.Laws.OwnMore
import Derived.Deep.OwnRows
import Derived.Tactics
import Derived.Lib.ConvBytes
import Derived.Laws.Slices
import Derived.WalkKit
import Derived.KernelRfl
import Derived.RowKit3
import Derived.Deep.LoopGhost
import Derived.Deep.QuietTactic
import Derived.BigQuiet
import Derived.WideLaws
import Derived.Deep.DeepCutAuto
import Derived.Deep.CutBlock
import Derived.Deep.RegionHeld3
import Derived.Laws.Rows
import Derived.Lib.AppendStr
import Derived.ArgAppend
import Derived.Laws.IdiomCopy
import Derived.OrdersHeld
import Derived.Laws.BitsLemmas
import Derived.RowKit
import Derived.Lib.SliceRun
import Derived.Laws.Externs
import Derived.Laws.FloatArith
import Derived.WalkMore
import Derived.Scope
import Derived.Test.YtnodcekkbbmfnaaWWords
import Derived.Test.YtnodcekkbbmfnaaWLast
import Derived.Test.YtnodcekkbbmfnaaWTab
import Derived.Test.YtnodcekkbbmfnaaWFour
import Derived.Test.YtnodcekkbbmfnaaWQPut
import Derived.Test.YtnodcekkbbmfnaaWApart
import Derived.Test.YtnodcekkbbmfnaaWArr
import Derived.Test.YtnodcekkbbmfnaaWZeros
import Derived.Test.YtnodcekkbbmfnaaWFoot
import Derived.Test.YtnodcekkbbmfnaaWKept
import Derived.Test.YtnodcekkbbmfnaaWShare
import Derived.Test.YtnodcekkbbmfnaaWN
import Derived.Test.YtnodcekkbbmfnaaWFootNe
import Derived.Test.YtnodcekkbbmfnaaWAt
import Derived.Test.YtnodcekkbbmfnaaWEqStruct
import Derived.Test.YtnodcekkbbmfnaaWRepsOne
import Derived.Test.YtnodcekkbbmfnaaWInv
import Derived.Test.YtnodcekkbbmfnaaWInvWords
import Derived.Test.YtnodcekkbbmfnaaWGuard
import Derived.Test.YtnodcekkbbmfnaaWNEv
import Derived.Test.YtnodcekkbbmfnaaWMore
namespace Go.Proofs.Ytnodcekkbbmfnaa.QBandWidens
open Go.RowKit Go.Proofs.YtnodcekkbbmfnaaW.PrintWords Go.Proofs.YtnodcekkbbmfnaaW.PrintLast Go.Proofs.YtnodcekkbbmfnaaW.PrintMore
attribute [local go_sem] max2_int min2_int max_two min_two max_three min_three max_four min_four   -- for this text's walks alone
set_option linter.unusedVariables false
set_option linter.unusedSimpArgs false



def errW : Option Int → Value
 | none => .nilIface
 | some c => .iface 0 (.int .i64 c)
theorem errW_none : errW none = .nilIface := rfl
theorem errW_some (c : Int) : errW (some c) = .iface 0 (.int .i64 c) := rfl

-- the values' own types
def flr (x : Nat) : Nat := FloatKind.f64.encode ((FloatKind.f64.decode x).integral .down)
theorem flr_at (x : Nat) : ∃ g : Bool → Nat → Sem Value, Extern.MathFloor.toIntegral "math.archFloor" .down #[.float .f64 x] = Extern.MathFloor.toIntegral.match_1 (fun _ => Sem Value) (FloatKind.f64.decode x) g (fun d => pure (.float .f64 (FloatKind.f64.encode (d.integral .down)))) := by
 refine ⟨?g, ?h⟩
 case h => exact rfl
def notNan (x : Nat) : Bool := !(FloatKind.f64.decode x).isNaN
theorem run_flr {P : Program} (x : Nat) (w : World) (h : notNan x = true) : (Extern.MathFloor.toIntegral "math.archFloor" .down #[.float .f64 x]).run P w = .ok (.float .f64 (flr x)) w := by
 obtain ⟨g, hg⟩ := flr_at x
 rw [hg]
 unfold flr
 unfold notNan at h
 generalize FloatKind.f64.decode x = d at h ⊢
 cases d with
 | number s m e => rfl
 | infinity s => rfl
 | nan s t => cases h
theorem run_fmul {P : Program} {t : TypeId} {x y : Nat} {w : World} (h : (FloatKind.f64.format.mul x y).isSome = true) : (binOp .mul t (.float .f64 x) (.float .f64 y)).run P w = .ok (.float .f64 ((FloatKind.f64.format.mul x y).getD 0)) w := by
 cases e : FloatKind.f64.format.mul x y with
 | none => rw [e] at h; cases h
 | some r => exact run_float_arith w .mul t .f64 x y r e
theorem run_cfi {P : Program} {src dst : TypeId} {k : IntKind} {b : Nat} {w : World} (hs : (P.underlying src).isSome = true) (hd : P.underlying dst = some (.int k)) (h : (floatToIntVal .f64 b k).isSome = true) : (convert src dst (.float .f64 b)).run P w = .ok (.int k ((floatToIntVal .f64 b k).getD 0)) w := by
 cases e : floatToIntVal .f64 b k with
 | none => rw [e] at h; cases h
 | some r => exact run_convert_float_int w src dst .f64 k b r hs hd e


end Go.Proofs.Ytnodcekkbbmfnaa.QBandWidens
