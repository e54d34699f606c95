/- Printed by wip/gen/myprint.py, a program of this session, for this claim: functions of the program as Lean functions, each with a proof that the Go code comes to its answers. -/
import Derived.Test.YtgikjgekdeaneaaProg
import Derived.Test.YtgikjgekdeaneaaVRulesPrices
import Derived.Below
import Derived.Deep.Draws
import Derived.Deep.AppendLies
import Derived.Maps.AppendAt
import Derived.OwnWalk
import Derived.Laws.BytesArg
import Derived.Laws.MakeOwn
import Derived.Laws.OwnMore
import Derived.Deep.OwnRows
import Derived.Tactics
import Derived.Lib.ConvBytes
import Derived.Laws.Slices
import Derived.WalkKit
import Derived.KernelRfl
import Derived.RowKit3
import Derived.Deep.LoopGhost
import Derived.Deep.QuietTactic
import Derived.BigQuiet
import Derived.WideLaws
import Derived.Deep.DeepCutAuto
import Derived.Deep.CutBlock
import Derived.Deep.RegionHeld3
import Derived.Laws.Rows
import Derived.Lib.AppendStr
import Derived.ArgAppend
import Derived.Laws.IdiomCopy
import Derived.OrdersHeld
import Derived.Laws.BitsLemmas
import Derived.RowKit
import Derived.Lib.SliceRun
import Derived.Laws.Externs
import Derived.Laws.FloatArith
import Derived.WalkMore
import Derived.Scope
namespace Go.Proofs.Ytgikjgekdeaneaa.QRulesPrices
open Go.RowKit Go.Proofs.YtgikjgekdeaneaaW.PrintWords Go.Proofs.YtgikjgekdeaneaaW.PrintLast Go.Proofs.YtgikjgekdeaneaaW.PrintMore
attribute [local go_sem] max2_int min2_int max_two min_two max_three min_three max_four min_four   -- for this text's walks alone
set_option linter.unusedVariables false
set_option linter.unusedSimpArgs false



def errW : Option Int → Value
 | none => .nilIface
 | some c => .iface 0 (.int .i64 c)
theorem errW_none : errW none = .nilIface := rfl
theorem errW_some (c : Int) : errW (some c) = .iface 0 (.int .i64 c) := rfl

theorem info3 : (Try.prog.info? 3).map (fun i => (i.zero, i.size, i.bytes)) = some (some (.int .i64 0), 1, 8) := by kernel_rfl
theorem info86 : (Try.prog.info? 86).map (fun i => (i.zero, i.size, i.bytes)) = some (some (.agg #[(.int .i64 0), (.int .i64 0), (.int .i64 0), (.float .f64 0)]), 4, 32) := by kernel_rfl
theorem info147 : (Try.prog.info? 147).map (fun i => (i.zero, i.size, i.bytes)) = some (some (.agg #[(.int .i64 0), (.int .i64 0), (.int .i64 0), (.float .f64 0)]), 4, 32) := by kernel_rfl
theorem info176 : (Try.prog.info? 176).map (fun i => (i.zero, i.size, i.bytes)) = some (some (.agg #[(.int .i64 0), (.int .i64 0)]), 2, 16) := by kernel_rfl
theorem info178 : (Try.prog.info? 178).map (fun i => (i.zero, i.size, i.bytes)) = some (some (.agg #[(.int .i64 0), (.int .i64 0)]), 2, 16) := by kernel_rfl
-- the values' own types
def flr (x : Nat) : Nat := FloatKind.f64.encode ((FloatKind.f64.decode x).integral .down)
theorem flr_at (x : Nat) : ∃ g : Bool → Nat → Sem Value, Extern.MathFloor.toIntegral "math.archFloor" .down #[.float .f64 x] = Extern.MathFloor.toIntegral.match_1 (fun _ => Sem Value) (FloatKind.f64.decode x) g (fun d => pure (.float .f64 (FloatKind.f64.encode (d.integral .down)))) := by
 refine ⟨?g, ?h⟩
 case h => exact rfl
def notNan (x : Nat) : Bool := !(FloatKind.f64.decode x).isNaN
theorem run_flr {P : Program} (x : Nat) (w : World) (h : notNan x = true) : (Extern.MathFloor.toIntegral "math.archFloor" .down #[.float .f64 x]).run P w = .ok (.float .f64 (flr x)) w := by
 obtain ⟨g, hg⟩ := flr_at x
 rw [hg]
 unfold flr
 unfold notNan at h
 generalize FloatKind.f64.decode x = d at h ⊢
 cases d with
 | number s m e => rfl
 | infinity s => rfl
 | nan s t => cases h
theorem run_fmul {P : Program} {t : TypeId} {x y : Nat} {w : World} (h : (FloatKind.f64.format.mul x y).isSome = true) : (binOp .mul t (.float .f64 x) (.float .f64 y)).run P w = .ok (.float .f64 ((FloatKind.f64.format.mul x y).getD 0)) w := by
 cases e : FloatKind.f64.format.mul x y with
 | none => rw [e] at h; cases h
 | some r => exact run_float_arith w .mul t .f64 x y r e
theorem run_cfi {P : Program} {src dst : TypeId} {k : IntKind} {b : Nat} {w : World} (hs : (P.underlying src).isSome = true) (hd : P.underlying dst = some (.int k)) (h : (floatToIntVal .f64 b k).isSome = true) : (convert src dst (.float .f64 b)).run P w = .ok (.int k ((floatToIntVal .f64 b k).getD 0)) w := by
 cases e : floatToIntVal .f64 b k with
 | none => rw [e] at h; cases h
 | some r => exact run_convert_float_int w src dst .f64 k b r hs hd e
theorem run_store_flt (P : Program) (w : World) (a : Addr) (m : Mode) (n : Nat) : (store a (.float .f64 n) m).run P w = stored P w a (.float .f64 n) m := run_store P w a _ m rfl

def Kd.flt : Kd Nat := Kd.scalar (Value.float .f64) (fun _ => rfl)
theorem Kd.heap_flt : Kd.Heap Kd.flt := ⟨fun _ h => h⟩
/-! #### struct type 176 -/
structure S176 where
 f0 : Int
 f1 : Int
def z176 : S176 := ⟨(0 : Int), (0 : Int)⟩
def k176 : Kd S176 := Kd.iso (Kd.pair (Kd.int .i64) (Kd.int .i64)) (fun x : S176 => (x.f0, x.f1))
theorem k176_open {w : World} {x : S176} {cs : List Value} (h : k176.K w x cs) : cs = [.int .i64 x.f0, .int .i64 x.f1] := by
 obtain ⟨_, _, rfl, rfl, rfl⟩ := h
 exact rfl
theorem k176_openM {w : World} {base : Nat} {ok : Nat → Prop} {x : S176} {cs : List Value} (h : k176.M w base ok x cs) : cs = [.int .i64 x.f0, .int .i64 x.f1] := by
 obtain ⟨_, _, rfl, rfl, rfl⟩ := h
 exact rfl
theorem k176_mk (w : World) (x : S176)  : k176.K w x [.int .i64 x.f0, .int .i64 x.f1] := ⟨[.int .i64 x.f0], [.int .i64 x.f1], rfl, rfl, rfl⟩
theorem k176_mkM (w : World) (base : Nat) (ok : Nat → Prop) (x : S176)  : k176.M w base ok x [.int .i64 x.f0, .int .i64 x.f1] := ⟨[.int .i64 x.f0], [.int .i64 x.f1], rfl, rfl, rfl⟩
def rd_T176 (xs : List S176) (i : Int) : S176 := xs.getD i.toNat z176
theorem at_T176 {w : World} {A : Option Addr} {n : Nat} {xs : List S176} (h : Kd.C k176 w A n xs) (i : Int) (h0 : 0 ≤ i) (h1 : i < n) : ∃ ad , A = some ad ∧ w.cell? (ad.add (i.toNat * 2)) = some (.int .i64 (rd_T176 xs i).f0) ∧ w.cell? ⟨(ad.add (i.toNat * 2)).block, (ad.add (i.toNat * 2)).off + 1, none⟩ = some (.int .i64 (rd_T176 xs i).f1) := by
 obtain ⟨ad, c, e, _, hK, hc0⟩ := Kd.C_get h z176 i h0 h1
 have hc : ∀ j u, c[j]? = some u → w.cell? (ad.add (i.toNat * 2 + j)) = some u := hc0
 obtain rfl := k176_open hK
 exact ⟨ad, e, hc 0 _ rfl, by rw [← add_field _ _ 1 (by omega)]; exact hc 1 _ rfl⟩

/-! #### struct type 86 -/
structure S86 where
 f0 : Int
 f1 : Int
 f2 : Int
 f3 : Nat
def z86 : S86 := ⟨(0 : Int), (0 : Int), (0 : Int), (0 : Nat)⟩
def k86 : Kd S86 := Kd.iso (Kd.pair (Kd.int .i64) (Kd.pair (Kd.int .i64) (Kd.pair (Kd.int .i64) Kd.flt))) (fun x : S86 => (x.f0, x.f1, x.f2, x.f3))
theorem k86_open {w : World} {x : S86} {cs : List Value} (h : k86.K w x cs) : cs = [.int .i64 x.f0, .int .i64 x.f1, .int .i64 x.f2, .float .f64 x.f3] := by
 obtain ⟨_, _, rfl, rfl, ⟨_, _, rfl, rfl, ⟨_, _, rfl, rfl, rfl⟩⟩⟩ := h
 exact rfl
theorem k86_openM {w : World} {base : Nat} {ok : Nat → Prop} {x : S86} {cs : List Value} (h : k86.M w base ok x cs) : cs = [.int .i64 x.f0, .int .i64 x.f1, .int .i64 x.f2, .float .f64 x.f3] := by
 obtain ⟨_, _, rfl, rfl, ⟨_, _, rfl, rfl, ⟨_, _, rfl, rfl, rfl⟩⟩⟩ := h
 exact rfl
theorem k86_mk (w : World) (x : S86)  : k86.K w x [.int .i64 x.f0, .int .i64 x.f1, .int .i64 x.f2, .float .f64 x.f3] := ⟨[.int .i64 x.f0], [.int .i64 x.f1, .int .i64 x.f2, .float .f64 x.f3], rfl, rfl, ⟨[.int .i64 x.f1], [.int .i64 x.f2, .float .f64 x.f3], rfl, rfl, ⟨[.int .i64 x.f2], [.float .f64 x.f3], rfl, rfl, rfl⟩⟩⟩
theorem k86_mkM (w : World) (base : Nat) (ok : Nat → Prop) (x : S86)  : k86.M w base ok x [.int .i64 x.f0, .int .i64 x.f1, .int .i64 x.f2, .float .f64 x.f3] := ⟨[.int .i64 x.f0], [.int .i64 x.f1, .int .i64 x.f2, .float .f64 x.f3], rfl, rfl, ⟨[.int .i64 x.f1], [.int .i64 x.f2, .float .f64 x.f3], rfl, rfl, ⟨[.int .i64 x.f2], [.float .f64 x.f3], rfl, rfl, rfl⟩⟩⟩
def rd_T86 (xs : List S86) (i : Int) : S86 := xs.getD i.toNat z86
theorem at_T86 {w : World} {A : Option Addr} {n : Nat} {xs : List S86} (h : Kd.C k86 w A n xs) (i : Int) (h0 : 0 ≤ i) (h1 : i < n) : ∃ ad , A = some ad ∧ w.cell? (ad.add (i.toNat * 4)) = some (.int .i64 (rd_T86 xs i).f0) ∧ w.cell? ⟨(ad.add (i.toNat * 4)).block, (ad.add (i.toNat * 4)).off + 1, none⟩ = some (.int .i64 (rd_T86 xs i).f1) ∧ w.cell? ⟨(ad.add (i.toNat * 4)).block, (ad.add (i.toNat * 4)).off + 2, none⟩ = some (.int .i64 (rd_T86 xs i).f2) ∧ w.cell? ⟨(ad.add (i.toNat * 4)).block, (ad.add (i.toNat * 4)).off + 3, none⟩ = some (.float .f64 (rd_T86 xs i).f3) := by
 obtain ⟨ad, c, e, _, hK, hc0⟩ := Kd.C_get h z86 i h0 h1
 have hc : ∀ j u, c[j]? = some u → w.cell? (ad.add (i.toNat * 4 + j)) = some u := hc0
 obtain rfl := k86_open hK
 exact ⟨ad, e, hc 0 _ rfl, by rw [← add_field _ _ 1 (by omega)]; exact hc 1 _ rfl, by rw [← add_field _ _ 2 (by omega)]; exact hc 2 _ rfl, by rw [← add_field _ _ 3 (by omega)]; exact hc 3 _ rfl⟩

/-! #### struct type 178 -/
structure S178 where
 f0 : Int
 f1 : Int
def z178 : S178 := ⟨(0 : Int), (0 : Int)⟩
def k178 : Kd S178 := Kd.iso (Kd.pair (Kd.int .i64) (Kd.int .i64)) (fun x : S178 => (x.f0, x.f1))
theorem k178_open {w : World} {x : S178} {cs : List Value} (h : k178.K w x cs) : cs = [.int .i64 x.f0, .int .i64 x.f1] := by
 obtain ⟨_, _, rfl, rfl, rfl⟩ := h
 exact rfl
theorem k178_openM {w : World} {base : Nat} {ok : Nat → Prop} {x : S178} {cs : List Value} (h : k178.M w base ok x cs) : cs = [.int .i64 x.f0, .int .i64 x.f1] := by
 obtain ⟨_, _, rfl, rfl, rfl⟩ := h
 exact rfl
theorem k178_mk (w : World) (x : S178)  : k178.K w x [.int .i64 x.f0, .int .i64 x.f1] := ⟨[.int .i64 x.f0], [.int .i64 x.f1], rfl, rfl, rfl⟩
theorem k178_mkM (w : World) (base : Nat) (ok : Nat → Prop) (x : S178)  : k178.M w base ok x [.int .i64 x.f0, .int .i64 x.f1] := ⟨[.int .i64 x.f0], [.int .i64 x.f1], rfl, rfl, rfl⟩
def rd_T178 (xs : List S178) (i : Int) : S178 := xs.getD i.toNat z178
theorem at_T178 {w : World} {A : Option Addr} {n : Nat} {xs : List S178} (h : Kd.C k178 w A n xs) (i : Int) (h0 : 0 ≤ i) (h1 : i < n) : ∃ ad , A = some ad ∧ w.cell? (ad.add (i.toNat * 2)) = some (.int .i64 (rd_T178 xs i).f0) ∧ w.cell? ⟨(ad.add (i.toNat * 2)).block, (ad.add (i.toNat * 2)).off + 1, none⟩ = some (.int .i64 (rd_T178 xs i).f1) := by
 obtain ⟨ad, c, e, _, hK, hc0⟩ := Kd.C_get h z178 i h0 h1
 have hc : ∀ j u, c[j]? = some u → w.cell? (ad.add (i.toNat * 2 + j)) = some u := hc0
 obtain rfl := k178_open hK
 exact ⟨ad, e, hc 0 _ rfl, by rw [← add_field _ _ 1 (by omega)]; exact hc 1 _ rfl⟩

/-! #### struct type 147 -/
structure S147 where
 f0 : Int
 f1 : Int
 f2 : Int
 f3 : Nat
def z147 : S147 := ⟨(0 : Int), (0 : Int), (0 : Int), (0 : Nat)⟩
def k147 : Kd S147 := Kd.iso (Kd.pair (Kd.int .i64) (Kd.pair (Kd.int .i64) (Kd.pair (Kd.int .i64) Kd.flt))) (fun x : S147 => (x.f0, x.f1, x.f2, x.f3))
theorem k147_open {w : World} {x : S147} {cs : List Value} (h : k147.K w x cs) : cs = [.int .i64 x.f0, .int .i64 x.f1, .int .i64 x.f2, .float .f64 x.f3] := by
 obtain ⟨_, _, rfl, rfl, ⟨_, _, rfl, rfl, ⟨_, _, rfl, rfl, rfl⟩⟩⟩ := h
 exact rfl
theorem k147_openM {w : World} {base : Nat} {ok : Nat → Prop} {x : S147} {cs : List Value} (h : k147.M w base ok x cs) : cs = [.int .i64 x.f0, .int .i64 x.f1, .int .i64 x.f2, .float .f64 x.f3] := by
 obtain ⟨_, _, rfl, rfl, ⟨_, _, rfl, rfl, ⟨_, _, rfl, rfl, rfl⟩⟩⟩ := h
 exact rfl
theorem k147_mk (w : World) (x : S147)  : k147.K w x [.int .i64 x.f0, .int .i64 x.f1, .int .i64 x.f2, .float .f64 x.f3] := ⟨[.int .i64 x.f0], [.int .i64 x.f1, .int .i64 x.f2, .float .f64 x.f3], rfl, rfl, ⟨[.int .i64 x.f1], [.int .i64 x.f2, .float .f64 x.f3], rfl, rfl, ⟨[.int .i64 x.f2], [.float .f64 x.f3], rfl, rfl, rfl⟩⟩⟩
theorem k147_mkM (w : World) (base : Nat) (ok : Nat → Prop) (x : S147)  : k147.M w base ok x [.int .i64 x.f0, .int .i64 x.f1, .int .i64 x.f2, .float .f64 x.f3] := ⟨[.int .i64 x.f0], [.int .i64 x.f1, .int .i64 x.f2, .float .f64 x.f3], rfl, rfl, ⟨[.int .i64 x.f1], [.int .i64 x.f2, .float .f64 x.f3], rfl, rfl, ⟨[.int .i64 x.f2], [.float .f64 x.f3], rfl, rfl, rfl⟩⟩⟩
def rd_T147 (xs : List S147) (i : Int) : S147 := xs.getD i.toNat z147
theorem at_T147 {w : World} {A : Option Addr} {n : Nat} {xs : List S147} (h : Kd.C k147 w A n xs) (i : Int) (h0 : 0 ≤ i) (h1 : i < n) : ∃ ad , A = some ad ∧ w.cell? (ad.add (i.toNat * 4)) = some (.int .i64 (rd_T147 xs i).f0) ∧ w.cell? ⟨(ad.add (i.toNat * 4)).block, (ad.add (i.toNat * 4)).off + 1, none⟩ = some (.int .i64 (rd_T147 xs i).f1) ∧ w.cell? ⟨(ad.add (i.toNat * 4)).block, (ad.add (i.toNat * 4)).off + 2, none⟩ = some (.int .i64 (rd_T147 xs i).f2) ∧ w.cell? ⟨(ad.add (i.toNat * 4)).block, (ad.add (i.toNat * 4)).off + 3, none⟩ = some (.float .f64 (rd_T147 xs i).f3) := by
 obtain ⟨ad, c, e, _, hK, hc0⟩ := Kd.C_get h z147 i h0 h1
 have hc : ∀ j u, c[j]? = some u → w.cell? (ad.add (i.toNat * 4 + j)) = some u := hc0
 obtain rfl := k147_open hK
 exact ⟨ad, e, hc 0 _ rfl, by rw [← add_field _ _ 1 (by omega)]; exact hc 1 _ rfl, by rw [← add_field _ _ 2 (by omega)]; exact hc 2 _ rfl, by rw [← add_field _ _ 3 (by omega)]; exact hc 3 _ rfl⟩

end Go.Proofs.Ytgikjgekdeaneaa.QRulesPrices
