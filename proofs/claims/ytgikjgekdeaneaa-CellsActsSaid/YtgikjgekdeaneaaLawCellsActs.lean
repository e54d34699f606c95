/- The law CellsActs: for all arguments its function answers true, and what is handed in stays. No condition. -/
import Derived.Test.YtgikjgekdeaneaaRows
import Derived.Test.YtgikjgekdeaneaaCellsC
import Derived.Test.YtgikjgekdeaneaaOp
import Derived.WalkKit
import Derived.ProofKit
import Derived.OpenShut
import Derived.ShutString
import Derived.ChangeOld
import Derived.Below
import Derived.SizedLaws
namespace Go.Proofs.Ytgikjgekdeaneaa.cellsActs
open Go.ChangeShapes Go.WideShapes Go.ChangeAt Go.RowKit Go.Proofs.Ytgikjgekdeaneaa.QCellsNews Go.Proofs.Ytgikjgekdeaneaa Go.Proofs.YtgikjgekdeaneaaW.PrintWords Go.Proofs.YtgikjgekdeaneaaW.PrintLast Go.Proofs.YtgikjgekdeaneaaW.PrintMore
open Go.ChangeMaps (open_string shut_string)
set_option linter.unusedVariables false
theorem opens_T3 : Op.Opens Try.prog 3 (Kd.int .i64) (fun x => (Lit.int .i64 x).wf = true) :=
  Op.opens_int Try.underlying3
theorem opens_T2 : Op.Opens Try.prog 2 (Kd.int .i64) (fun x => (Lit.int .i64 x).wf = true) :=
  Op.opens_int Try.underlying2
theorem opens_T50 : Op.Opens Try.prog 50 Cells.k50 (fun x => ((Lit.int .i64 x.f0).wf = true ∧ (Lit.int .i64 x.f1).wf = true ∧ (Lit.int .i64 x.f2).wf = true ∧ (Lit.int .i64 x.f3).wf = true ∧ (Lit.int .i64 x.f4).wf = true)) :=
  Op.opens_iso (fun x : Cells.S50 => (x.f0, x.f1, x.f2, x.f3, x.f4)) (fun y => ⟨y.1, y.2.1, y.2.2.1, y.2.2.2.1, y.2.2.2.2⟩) (fun _ => rfl) (Op.opens_struct Try.underlying50 (by kernel_rfl) (Op.opensF_cons rfl (by kernel_rfl) opens_T3 (Op.opensF_cons rfl (by kernel_rfl) opens_T3 (Op.opensF_cons rfl (by kernel_rfl) opens_T3 (Op.opensF_cons rfl (by kernel_rfl) opens_T2 (Op.opensF_one rfl (by kernel_rfl) opens_T2))))))
theorem opens_T43 : Op.Opens Try.prog 43 (Kd.slice 50 Cells.k50) (fun x => (x.length ≤ maxLen ∧ ∀ x_ ∈ x, ((Lit.int .i64 x_.f0).wf = true ∧ (Lit.int .i64 x_.f1).wf = true ∧ (Lit.int .i64 x_.f2).wf = true ∧ (Lit.int .i64 x_.f3).wf = true ∧ (Lit.int .i64 x_.f4).wf = true))) :=
  Op.opens_slice Cells.z50 Try.underlying43 (by kernel_rfl) opens_T50
theorem own : ownKnob Try.prog.godebug = none := by kernel_rfl
theorem laidOut : laidOutB Try.prog = true := by kernel_rfl
set_option maxRecDepth 100000 in
theorem lifted (os : Os) (started : os.Started) (H : Type) (enc : TypeId × Value → H) :
    ReturnsInHanded {} Try.checked os 5 .any (Rows.cellsActsSpec.pre6 enc Try.prog Try.f5 Rows.cellsActsRow.domain false) (Rows.cellsActsSpec.post enc Try.prog Try.f5 false true false false) := by
  refine returnsInHanded_of_change_sized (C := Try.checked) own started (by kernel_rfl) Try.func5
    (ChangeSpec.witness6 (enc := enc) (C := Try.checked) false ⟨#[], #[.slice none 0 0], []⟩ 8 (by kernel_rfl) (by kernel_rfl) (by kernel_rfl) (by kernel_rfl)) ?_
  intro W base args ds gs before hval0 hW hcnd hsz0 _
  have hsz : (DataW.weightsEach Try.prog (Try.f5.params.toList ++ Rows.cellsActsSpec.plain.varTypes Try.prog) (ds ++ gs)).all (· ≤ reachBytes) = true := hsz0
  have hval : ∀ (j : Nat) t v, Try.f5.params[j]? = some t → args[j]? = some v → Value.okWide Try.prog W .any base t v := hval0
  have hW' := hW
  obtain ⟨p, q, hA0, hV, rfl, hfz, hnd⟩ := hW
  have hA : DataW.TrodAll enc Try.prog W 0 (fun _ => true) true Try.f5.params.toList args.toList ds p := hA0
  rw [Try.params5] at hA hval hsz
  obtain ⟨v0, vs0, d0, ds0, p0, q0, hargs, rfl, rfl, h0, r0⟩ := trodAll_cons hA
  obtain ⟨rfl, rfl, rfl⟩ := trodAll_nil r0
  obtain rfl : args = #[v0] := by cases args; simp_all
  obtain ⟨rfl, rfl⟩ := trodVars_none hV
  obtain ⟨A0, n0, c0, rfl⟩ := okWide_slice Try.underlying43 (hval 0 43 v0 rfl rfl)
  have k0 := h0
  have lt0 : ∀ x ∈ p0, x.block < W.heap.size := by obtain ⟨m, hm⟩ := k0; exact DataW.trod_lt m _ _ _ hm
  obtain ⟨f0, hf0⟩ := h0
  obtain ⟨a0, ok0, A0_, c0_, hcs0, hc0, rd0⟩ := opens_T43.out hf0
  have hcs0' : Value.slice A0 n0 c0 = Value.slice A0_ a0.length c0_ := by simpa [Value.cells] using hcs0
  injection hcs0' with e1_0 e2_0 e3_0
  subst e1_0 e2_0 e3_0
  clear hA0 hval0 hsz0 hsz
  refine (Cells.acts A0 c0 a0 W rd0 hc0).mono fun e W' ⟨he, bel⟩ => ?_
  subst he
  exact ⟨_, rfl, _, _, _, [], _, [], hW', trodAll_mk1 (shut_bool Try.underlying4 _), (trodAll_cons_mk (Below.trod laidOut (by kernel_rfl) (of_decide_eq_true (by kernel_rfl)) k0 bel lt0) trodAll_mk0), rfl, bel.frame _, fun h => by cases h⟩
theorem over : Rows.cellsActsRow.holds Try.pinned (OpenSpec.ofChange Rows.cellsActsSpec) :=
  OpenClaim.holds_of_wide 5 Try.f5 rfl rfl rfl rfl rfl rfl rfl ⟨rfl, rfl, rfl, rfl, rfl⟩ rfl rfl rfl rfl rfl (by kernel_rfl) Try.func5 (by kernel_rfl)
    (of_decide_eq_true (by kernel_rfl)) (by unfold Func.isWrapper; first | (rw [if_pos (by decide +kernel)]; kernel_rfl) | (rw [if_neg (by decide +kernel)]; exact ⟨rfl, rfl⟩))
    (fun os started H enc _ => lifted os started H enc)
theorem proved : Rows.CellsActsSaid := over
#print axioms proved
end Go.Proofs.Ytgikjgekdeaneaa.cellsActs
namespace Go.Proofs.Ytgikjgekdeaneaa
/-- The row, under a short name, for the claim. -/
theorem cellsActs_holds : Rows.CellsActsSaid := cellsActs.proved
end Go.Proofs.Ytgikjgekdeaneaa
