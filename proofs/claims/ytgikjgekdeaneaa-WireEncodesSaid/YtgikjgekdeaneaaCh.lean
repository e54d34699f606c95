/- Words of one's own: what turned (Ch: the blocks of S alone), and small lemmas of walks by hand. -/
import Derived.Test.YtgikjgekdeaneaaProg
import Derived.Below
import Derived.Deep.Draws
import Derived.Deep.AppendLies
import Derived.Maps.AppendAt
import Derived.OwnWalk
import Derived.Laws.BytesArg
import Derived.Laws.MakeOwn
import Derived.Laws.OwnMore
import Derived.Deep.OwnRows
import Derived.Tactics
import Derived.Lib.ConvBytes
import Derived.Laws.Slices
import Derived.WalkKit
import Derived.KernelRfl
import Derived.RowKit3
import Derived.Deep.LoopGhost
import Derived.Deep.QuietTactic
import Derived.BigQuiet
import Derived.WideLaws
import Derived.Deep.DeepCutAuto
import Derived.Deep.CutBlock
import Derived.Deep.RegionHeld3
import Derived.Laws.Rows
import Derived.Lib.AppendStr
import Derived.ArgAppend
import Derived.Laws.IdiomCopy
import Derived.OrdersHeld
import Derived.Laws.BitsLemmas
import Derived.RowKit
import Derived.Lib.SliceRun
import Derived.Laws.Externs
import Derived.Laws.FloatArith
import Derived.WalkMore
import Derived.Scope
import Derived.Deep.RegionWith
import Derived.Test.YtgikjgekdeaneaaWWords
import Derived.Test.YtgikjgekdeaneaaWLast
import Derived.Test.YtgikjgekdeaneaaWTab
import Derived.Test.YtgikjgekdeaneaaWFour
import Derived.Test.YtgikjgekdeaneaaWQPut
import Derived.Test.YtgikjgekdeaneaaWApart
import Derived.Test.YtgikjgekdeaneaaWArr
import Derived.Test.YtgikjgekdeaneaaWZeros
import Derived.Test.YtgikjgekdeaneaaWFoot
import Derived.Test.YtgikjgekdeaneaaWKept
import Derived.Test.YtgikjgekdeaneaaWShare
import Derived.Test.YtgikjgekdeaneaaWN
import Derived.Test.YtgikjgekdeaneaaWFootNe
import Derived.Test.YtgikjgekdeaneaaWAt
import Derived.Test.YtgikjgekdeaneaaWEqStruct
import Derived.Test.YtgikjgekdeaneaaWRepsOne
import Derived.Test.YtgikjgekdeaneaaWInv
import Derived.Test.YtgikjgekdeaneaaWInvWords
import Derived.Test.YtgikjgekdeaneaaWGuard
import Derived.Test.YtgikjgekdeaneaaWNEv
import Derived.Test.YtgikjgekdeaneaaWMore
namespace Go.Proofs.Ytgikjgekdeaneaa.Own
open Go.RowKit Go.Proofs.YtgikjgekdeaneaaW.PrintWords Go.Proofs.YtgikjgekdeaneaaW.PrintLast Go.Proofs.YtgikjgekdeaneaaW.PrintMore
set_option linter.unusedVariables false
/-- The blocks of S alone have turned, of those that were there. -/
structure Ch (S : Nat → Prop) (w w' : World) : Prop where
  os : w'.os = w.os
  tape : w'.tape = w.tape
  output : w'.output = w.output
  size : w.heap.size ≤ w'.heap.size
  block : ∀ k, k < w.heap.size → ¬ S k → w'.heap[k]? = w.heap[k]?
/-- Nothing has turned. -/
def none_ : Nat → Prop := fun _ => False
/-- One block. -/
def one (g : Nat) : Nat → Prop := fun k => k = g
section
variable {S S' : Nat → Prop} {w w1 w2 : World} {g : Nat}
theorem Ch.refl (S : Nat → Prop) (w : World) : Ch S w w := ⟨rfl, rfl, rfl, Nat.le_refl _, fun _ _ _ => rfl⟩
theorem Ch.mono (h : Ch S w w1) (hs : ∀ k, k < w.heap.size → S k → S' k) : Ch S' w w1 := ⟨h.1, h.2, h.3, h.4, fun k hk hn => h.5 k hk (fun hk' => hn (hs k hk hk'))⟩
theorem Ch.then_ (h : Ch S w w1) (k : Ch S' w1 w2) (hs : ∀ k, k < w.heap.size → S' k → S k) : Ch S w w2 :=
  ⟨k.1.trans h.1, k.2.trans h.2, k.3.trans h.3, Nat.le_trans h.4 k.4, fun i hi hn => (k.5 i (Nat.lt_of_lt_of_le hi h.4) (fun hk => hn (hs i hi hk))).trans (h.5 i hi hn)⟩
theorem Ch.trans (h : Ch S w w1) (k : Ch S w1 w2) : Ch S w w2 := h.then_ k (fun _ _ hk => hk)
theorem Ch.drewN (h : Ch S w w1) (m : Nat) : Ch S w (w1.drewN m) := ⟨h.1, h.2, h.3, h.4, h.5⟩
theorem Ch.drew (h : Ch S w w1) : Ch S w w1.drew := ⟨h.1, h.2, h.3, h.4, h.5⟩
theorem Ch.alloc (h : Ch S w w1) (o : Obj) : Ch S w (w1.alloc o) := ⟨h.1, h.2, h.3, Nat.le_trans h.4 (by simp), fun k hk hn => (Below.heap_alloc w1 o k (Nat.lt_of_lt_of_le hk h.4)).trans (h.5 k hk hn)⟩
theorem nblk_ (w : World) (p : Addr) (u : Value) : (w.setCell p u).heap.size = w.heap.size := by simp [World.setCell]
theorem Ch.set (h : Ch S w w1) {p : Addr} (hp : p.block < w.heap.size → S p.block) (u : Value) : Ch S w (w1.setCell p u) :=
  ⟨h.1, h.2, h.3, by rw [nblk_]; exact h.4, fun k hk hn => (Below.heap_setCell w1 p u k (fun e => hn (e ▸ hp (e ▸ hk)))).trans (h.5 k hk hn)⟩
theorem Ch.of_below (h : Below w.heap.size w w1) : Ch S w w1 := ⟨h.1, h.2, h.3, h.4, fun k hk _ => h.5 k hk⟩
theorem Ch.step (h : Ch S w w1) (k : Below w1.heap.size w1 w2) : Ch S w w2 := h.trans (Ch.of_below k)
theorem Ch.grown (h : Ch S w w1) {row : Option Nat} (k : w1.grownBy w2 row) (hr : ∀ i, row = some i → i < w.heap.size → S i) : Ch S w w2 :=
  ⟨k.os.trans h.1, k.tape.trans h.2, k.output.trans h.3, Nat.le_trans h.4 k.size, fun i hi hn => (k.block i (Nat.lt_of_lt_of_le hi h.4) (fun e => hn (hr i e.symm hi))).trans (h.5 i hi hn)⟩
/-- Below n, if S lies from n on. -/
theorem Ch.below {n : Nat} (h : Ch S w w1) (hn : n ≤ w.heap.size) (hs : ∀ k, S k → n ≤ k) : Below n w w1 :=
  ⟨h.1, h.2, h.3, h.4, fun k hk => h.5 k (Nat.lt_of_lt_of_le hk hn) (fun hk' => by have := hs k hk'; omega)⟩
theorem Ch.below0 (h : Ch none_ w w1) : Below w.heap.size w w1 := h.below (Nat.le_refl _) (fun _ hk => hk.elim)
theorem Ch.blk {o : Obj} (h : Ch S w w1) (hg : w.heap[g]? = some o) (hn : ¬ S g) : w1.heap[g]? = some o := (h.5 g (blk_lt hg) hn).trans hg
theorem Ch.kept (h : Ch S w w1) : Kept w w1 S := ⟨h.4, h.5⟩
theorem Ch.foot {P : World → Prop} {ok : Nat → Prop} (h : Ch S w w1) (hf : Foot P w ok) (hs : ∀ k, ok k → ¬ S k) : Foot P w1 ok := hf.step (fun k hk hlt => h.5 k hlt (hs k hk))
end
/-- A callee that draws, in a quiet region. -/
theorem quiet0 {P : Program} {f : FuncId} {args : Array Value} {w : World} {n : Nat} {v : Value} (h : Calls P f args (w.drewN n) fun e w' => e = .returned v ∧ Drawn0 (w.drewN n) w') : Calls P f args (w.drewN n) fun e w'' => e = .returned v ∧ ∃ m, w'' = w.drewN m :=
  Calls.quiet_of (h.mono fun _ _ ⟨he, hd⟩ => ⟨he, hd.out⟩)
theorem new_at (W : World) (o : Obj) (g : Nat) (h : g = W.heap.size) : (W.alloc o).heap[g]? = some o := by
  subst h
  exact heap_alloc_new W o
theorem size_alloc (W : World) (o : Obj) : (W.alloc o).heap.size = W.heap.size + 1 := by simp
theorem i64_in (x : Int) (h0 : -9223372036854775808 ≤ x) (h1 : x ≤ 9223372036854775807) : wrap64 x = x := by unfold wrap64; omega
theorem u64_in (x : Int) (h0 : 0 ≤ x) (h1 : x ≤ 18446744073709551615) : IntKind.u64.wrap x = x := by rw [show IntKind.u64.wrap x = x % 18446744073709551616 from rfl]; omega
end Go.Proofs.Ytgikjgekdeaneaa.Own
