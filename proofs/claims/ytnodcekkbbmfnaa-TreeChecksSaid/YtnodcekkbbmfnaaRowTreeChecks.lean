/- Of all lists of nodes package tree tells what is wrong first, and where, as the reference does. No condition. -/
import Derived.Test.YtnodcekkbbmfnaaRows
import Derived.Test.YtnodcekkbbmfnaaKO
import Derived.Test.YtnodcekkbbmfnaaTreeLaws
import Derived.WalkKit
import Derived.ProofKit
import Derived.OpenShut
import Derived.ShutString
import Derived.ChangeOld
import Derived.Below
import Derived.SizedLaws
namespace Go.Proofs.Ytnodcekkbbmfnaa.treeChecks
open Go.ChangeShapes Go.WideShapes Go.ChangeAt Go.RowKit Go.Proofs.Ytnodcekkbbmfnaa.K Go.Proofs.Ytnodcekkbbmfnaa.Tree
open Go.ChangeMaps (open_string shut_string)
set_option linter.unusedVariables false
theorem opens_node : Opens Try.prog 68 kNode (fun x => (Lit.int .i64 x.parent).wf = true ∧ (Lit.int .i64 x.cap).wf = true) :=
  opens_imp (ok := fun x : Tree.Node => (Lit.int .i64 x.parent).wf = true ∧ (Lit.int .i64 x.cap).wf = true) (opens_iso (fun x : Tree.Node => (x.parent, x.cap)) (fun y => ⟨y.1, y.2⟩) (fun _ => rfl) (opens_struct Try.underlying68 (by kernel_rfl) (opensF_cons rfl (by kernel_rfl) (opens_int Try.underlying3) (opensF_one rfl (by kernel_rfl) (opens_int Try.underlying2))))) (fun _ h => h)
theorem opens_nodes : Opens Try.prog 27 (Kd.slice kNode (by decide)) (fun l => ∀ x ∈ l, (Lit.int .i64 x.parent).wf = true ∧ (Lit.int .i64 x.cap).wf = true) :=
  opens_slice ⟨0, 0⟩ (by decide) Try.underlying27 (by kernel_rfl) opens_node
theorem own : ownKnob Try.prog.godebug = none := by kernel_rfl
theorem laidOut : laidOutB Try.prog = true := by kernel_rfl
set_option maxRecDepth 100000 in
theorem lifted (os : Os) (started : os.Started) (H : Type) (enc : TypeId × Value → H) :
    ReturnsInHanded {} Try.checked os 6 .any (Rows.treeChecksSpec.pre6 enc Try.prog Try.f6 Rows.treeChecksRow.domain false) (Rows.treeChecksSpec.post enc Try.prog Try.f6 false true false false) := by
  refine returnsInHanded_of_change_sized (C := Try.checked) own started (by kernel_rfl) Try.func6
    (ChangeSpec.witness6 (enc := enc) (C := Try.checked) false ⟨#[], #[.slice none 0 0], []⟩ 8 (by kernel_rfl) (by kernel_rfl) (by kernel_rfl) (by kernel_rfl)) ?_
  intro W base args ds gs before hval0 hW hcnd hsz0 _
  have hsz : (DataW.weightsEach Try.prog (Try.f6.params.toList ++ Rows.treeChecksSpec.plain.varTypes Try.prog) (ds ++ gs)).all (· ≤ reachBytes) = true := hsz0
  have hval : ∀ (j : Nat) t v, Try.f6.params[j]? = some t → args[j]? = some v → Value.okWide Try.prog W .any base t v := hval0
  have hW' := hW
  obtain ⟨p, q, hA0, hV, rfl, hfz, hnd⟩ := hW
  have hA : DataW.TrodAll enc Try.prog W 0 (fun _ => true) true Try.f6.params.toList args.toList ds p := hA0
  rw [Try.params6] at hA hval hsz
  obtain ⟨v0, vs0, d0, ds0, p0, q0, hargs, rfl, rfl, h0, r0⟩ := trodAll_cons hA
  obtain ⟨rfl, rfl, rfl⟩ := trodAll_nil r0
  obtain rfl : args = #[v0] := by cases args; simp_all
  obtain ⟨rfl, rfl⟩ := trodVars_none hV
  obtain ⟨A0, n0, c0, rfl⟩ := okWide_slice Try.underlying27 (hval 0 27 v0 rfl rfl)
  have k0 := h0
  have lt0 : ∀ x ∈ p0, x.block < W.heap.size := by obtain ⟨m, hm⟩ := k0; exact DataW.trod_lt m _ _ _ hm
  obtain ⟨f0, hf0⟩ := h0
  obtain ⟨a0, ok0, A0_, c0_, hcs0, hc0, rd0⟩ := opens_nodes.out hf0
  have hcs0' : Value.slice A0 n0 c0 = Value.slice A0_ a0.length c0_ := by simpa [Value.cells] using hcs0
  injection hcs0' with e1_0 e2_0 e3_0
  subst e1_0 e2_0 e3_0
  clear hA0 hval0 hsz0 hsz
  refine (checks_any A0 c0 a0 W rd0 hc0).mono fun e W' ⟨he, bel⟩ => ?_
  subst he
  exact ⟨_, rfl, _, _, _, [], _, [], hW', trodAll_mk1 (shut_bool Try.underlying4 _), (trodAll_cons_mk (Below.trod laidOut (by kernel_rfl) (of_decide_eq_true (by kernel_rfl)) k0 bel lt0) trodAll_mk0), rfl, bel.frame _, fun h => by cases h⟩
theorem over : Rows.treeChecksRow.holds Try.pinned (OpenSpec.ofChange Rows.treeChecksSpec) :=
  OpenClaim.holds_of_wide 6 Try.f6 rfl rfl rfl rfl rfl rfl rfl ⟨rfl, rfl, rfl, rfl, rfl⟩ rfl rfl rfl rfl rfl (by kernel_rfl) Try.func6 (by kernel_rfl)
    (of_decide_eq_true (by kernel_rfl)) (by unfold Func.isWrapper; first | (rw [if_pos (by decide +kernel)]; kernel_rfl) | (rw [if_neg (by decide +kernel)]; exact ⟨rfl, rfl⟩))
    (fun os started H enc _ => lifted os started H enc)
theorem proved : Rows.TreeChecksSaid := over
#print axioms proved
end Go.Proofs.Ytnodcekkbbmfnaa.treeChecks
namespace Go.Proofs.Ytnodcekkbbmfnaa
/-- The row, under a short name, for the claim. -/
theorem treeChecks_holds : Rows.TreeChecksSaid := treeChecks.proved
end Go.Proofs.Ytnodcekkbbmfnaa
