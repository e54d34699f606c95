/- Of all trees that may be, out of any list, the path and the level of each node are as the reference tells; each node on a path but the last hangs on the next one, the last on none. No condition. -/
import Derived.Test.YtnodcekkbbmfnaaRows
import Derived.Test.YtnodcekkbbmfnaaKO
import Derived.Test.YtnodcekkbbmfnaaTreePaths
import Derived.WalkKit
import Derived.ProofKit
import Derived.OpenShut
import Derived.ShutString
import Derived.ChangeOld
import Derived.Below
import Derived.SizedLaws
namespace Go.Proofs.Ytnodcekkbbmfnaa.treePaths
open Go.ChangeShapes Go.WideShapes Go.ChangeAt Go.RowKit Go.Proofs.Ytnodcekkbbmfnaa.K Go.Proofs.Ytnodcekkbbmfnaa.Tree
open Go.ChangeMaps (open_string shut_string)
set_option linter.unusedVariables false
theorem opens_node : Opens Try.prog 68 kNode (fun x => (Lit.int .i64 x.parent).wf = true ∧ (Lit.int .i64 x.cap).wf = true) :=
  opens_imp (ok := fun x : Tree.Node => (Lit.int .i64 x.parent).wf = true ∧ (Lit.int .i64 x.cap).wf = true) (opens_iso (fun x : Tree.Node => (x.parent, x.cap)) (fun y => ⟨y.1, y.2⟩) (fun _ => rfl) (opens_struct Try.underlying68 (by kernel_rfl) (opensF_cons rfl (by kernel_rfl) (opens_int Try.underlying3) (opensF_one rfl (by kernel_rfl) (opens_int Try.underlying2))))) (fun _ h => h)
theorem opens_nodes : Opens Try.prog 27 (Kd.slice kNode (by decide)) (fun l => ∀ x ∈ l, (Lit.int .i64 x.parent).wf = true ∧ (Lit.int .i64 x.cap).wf = true) :=
  opens_slice ⟨0, 0⟩ (by decide) Try.underlying27 (by kernel_rfl) opens_node
theorem own : ownKnob Try.prog.godebug = none := by kernel_rfl
theorem laidOut : laidOutB Try.prog = true := by kernel_rfl
set_option maxRecDepth 100000 in
theorem lifted (os : Os) (started : os.Started) (H : Type) (enc : TypeId × Value → H) :
    ReturnsInHanded {} Try.checked os 7 .any (Rows.treePathsSpec.pre6 enc Try.prog Try.f7 Rows.treePathsRow.domain false) (Rows.treePathsSpec.post enc Try.prog Try.f7 false true false false) := by
  refine returnsInHanded_of_change_sized (C := Try.checked) own started (by kernel_rfl) Try.func7
    (ChangeSpec.witness6 (enc := enc) (C := Try.checked) false ⟨#[], #[.slice none 0 0, .int .i64 0], []⟩ 8 (by kernel_rfl) (by kernel_rfl) (by kernel_rfl) (by kernel_rfl)) ?_
  intro W base args ds gs before hval0 hW hcnd hsz0 _
  have hsz : (DataW.weightsEach Try.prog (Try.f7.params.toList ++ Rows.treePathsSpec.plain.varTypes Try.prog) (ds ++ gs)).all (· ≤ reachBytes) = true := hsz0
  have hval : ∀ (j : Nat) t v, Try.f7.params[j]? = some t → args[j]? = some v → Value.okWide Try.prog W .any base t v := hval0
  have hW' := hW
  obtain ⟨p, q, hA0, hV, rfl, hfz, hnd⟩ := hW
  have hA : DataW.TrodAll enc Try.prog W 0 (fun _ => true) true Try.f7.params.toList args.toList ds p := hA0
  rw [Try.params7] at hA hval hsz
  obtain ⟨v0, vs0, d0, ds0, p0, q0, hargs, rfl, rfl, h0, r0⟩ := trodAll_cons hA
  obtain ⟨v1, vs1, d1, ds1, p1, q1, rfl, rfl, rfl, h1, r1⟩ := trodAll_cons r0
  obtain ⟨rfl, rfl, rfl⟩ := trodAll_nil r1
  obtain rfl : args = #[v0, v1] := by cases args; simp_all
  obtain ⟨rfl, rfl⟩ := trodVars_none hV
  obtain ⟨A0, n0, c0, rfl⟩ := okWide_slice Try.underlying27 (hval 0 27 v0 rfl rfl)
  have k0 := h0
  have lt0 : ∀ x ∈ p0, x.block < W.heap.size := by obtain ⟨m, hm⟩ := k0; exact DataW.trod_lt m _ _ _ hm
  obtain ⟨f0, hf0⟩ := h0
  obtain ⟨a0, ok0, A0_, c0_, hcs0, hc0, rd0⟩ := opens_nodes.out hf0
  have hcs0' : Value.slice A0 n0 c0 = Value.slice A0_ a0.length c0_ := by simpa [Value.cells] using hcs0
  injection hcs0' with e1_0 e2_0 e3_0
  subst e1_0 e2_0 e3_0
  obtain ⟨a1, rfl, rfl, rfl, w1⟩ := open_int Try.underlying3 (hval 1 3 v1 rfl rfl) h1
  clear hA0 hval0 hsz0 hsz
  refine (paths_any A0 c0 a0 a1 W rd0 hc0 (i64_range w1)).mono fun e W' ⟨he, bel⟩ => ?_
  subst he
  exact ⟨_, rfl, _, _, _, [], _, [], hW', trodAll_mk1 (shut_bool Try.underlying4 _), (trodAll_cons_mk (Below.trod laidOut (by kernel_rfl) (of_decide_eq_true (by kernel_rfl)) k0 bel lt0) (trodAll_cons_mk (shut_int Try.underlying3 w1) trodAll_mk0)), rfl, bel.frame _, fun h => by cases h⟩
theorem over : Rows.treePathsRow.holds Try.pinned (OpenSpec.ofChange Rows.treePathsSpec) :=
  OpenClaim.holds_of_wide 7 Try.f7 rfl rfl rfl rfl rfl rfl rfl ⟨rfl, rfl, rfl, rfl, rfl⟩ rfl rfl rfl rfl rfl (by kernel_rfl) Try.func7 (by kernel_rfl)
    (of_decide_eq_true (by kernel_rfl)) (by unfold Func.isWrapper; first | (rw [if_pos (by decide +kernel)]; kernel_rfl) | (rw [if_neg (by decide +kernel)]; exact ⟨rfl, rfl⟩))
    (fun os started H enc _ => lifted os started H enc)
theorem proved : Rows.TreePathsSaid := over
#print axioms proved
end Go.Proofs.Ytnodcekkbbmfnaa.treePaths
namespace Go.Proofs.Ytnodcekkbbmfnaa
/-- The row, under a short name, for the claim. -/
theorem treePaths_holds : Rows.TreePathsSaid := treePaths.proved
end Go.Proofs.Ytnodcekkbbmfnaa
