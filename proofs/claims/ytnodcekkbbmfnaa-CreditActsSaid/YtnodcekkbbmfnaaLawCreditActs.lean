/- The law CreditActs: for all arguments its function answers true, and what is handed in stays. No condition. -/
import Derived.Test.YtnodcekkbbmfnaaRows
import Derived.Test.YtnodcekkbbmfnaaCrA
import Derived.Test.YtnodcekkbbmfnaaOCrB
import Derived.WalkKit
import Derived.ProofKit
import Derived.OpenShut
import Derived.ShutString
import Derived.ChangeOld
import Derived.Below
import Derived.SizedLaws
namespace Go.Proofs.Ytnodcekkbbmfnaa.creditActs
open Go.ChangeShapes Go.WideShapes Go.ChangeAt Go.RowKit Go.Proofs.Ytnodcekkbbmfnaa.QCrB Go.Proofs.Ytnodcekkbbmfnaa Go.Proofs.YtnodcekkbbmfnaaW.PrintWords Go.Proofs.YtnodcekkbbmfnaaW.PrintLast Go.Proofs.YtnodcekkbbmfnaaW.PrintMore
open Go.ChangeMaps (open_string shut_string)
set_option linter.unusedVariables false
theorem opens_T3 : Op.Opens Try.prog 3 (Kd.int .i64) (fun x => (Lit.int .i64 x).wf = true) :=
  Op.opens_int Try.underlying3
theorem opens_T2 : Op.Opens Try.prog 2 (Kd.int .i64) (fun x => (Lit.int .i64 x).wf = true) :=
  Op.opens_int Try.underlying2
theorem opens_T68 : Op.Opens Try.prog 68 k68 (fun x => ((Lit.int .i64 x.f0).wf = true ∧ (Lit.int .i64 x.f1).wf = true)) :=
  Op.opens_iso (fun x : S68 => (x.f0, x.f1)) (fun y => ⟨y.1, y.2⟩) (fun _ => rfl) (Op.opens_struct Try.underlying68 (by kernel_rfl) (Op.opensF_cons rfl (by kernel_rfl) opens_T3 (Op.opensF_one rfl (by kernel_rfl) opens_T2)))
theorem opens_T27 : Op.Opens Try.prog 27 (Kd.slice 68 k68) (fun x => (x.length ≤ maxLen ∧ ∀ x_ ∈ x, ((Lit.int .i64 x_.f0).wf = true ∧ (Lit.int .i64 x_.f1).wf = true))) :=
  Op.opens_slice z68 Try.underlying27 (by kernel_rfl) opens_T68
theorem opens_T74 : Op.Opens Try.prog 74 k74 (fun x => ((Lit.int .i64 x.f0).wf = true ∧ (Lit.int .i64 x.f1).wf = true ∧ (Lit.int .i64 x.f2).wf = true)) :=
  Op.opens_iso (fun x : S74 => (x.f0, x.f1, x.f2)) (fun y => ⟨y.1, y.2.1, y.2.2⟩) (fun _ => rfl) (Op.opens_struct Try.underlying74 (by kernel_rfl) (Op.opensF_cons rfl (by kernel_rfl) opens_T3 (Op.opensF_cons rfl (by kernel_rfl) opens_T3 (Op.opensF_one rfl (by kernel_rfl) opens_T2))))
theorem opens_T70 : Op.Opens Try.prog 70 (Kd.slice 74 k74) (fun x => (x.length ≤ maxLen ∧ ∀ x_ ∈ x, ((Lit.int .i64 x_.f0).wf = true ∧ (Lit.int .i64 x_.f1).wf = true ∧ (Lit.int .i64 x_.f2).wf = true))) :=
  Op.opens_slice z74 Try.underlying70 (by kernel_rfl) opens_T74
theorem own : ownKnob Try.prog.godebug = none := by kernel_rfl
theorem laidOut : laidOutB Try.prog = true := by kernel_rfl
set_option maxRecDepth 100000 in
theorem lifted (os : Os) (started : os.Started) (H : Type) (enc : TypeId × Value → H) :
    ReturnsInHanded {} Try.checked os 13 .any (Rows.creditActsSpec.pre6 enc Try.prog Try.f13 Rows.creditActsRow.domain false) (Rows.creditActsSpec.post enc Try.prog Try.f13 false true false false) := by
  refine returnsInHanded_of_change_sized (C := Try.checked) own started (by kernel_rfl) Try.func13
    (ChangeSpec.witness6 (enc := enc) (C := Try.checked) false ⟨#[], #[.slice none 0 0, .slice none 0 0], []⟩ 8 (by kernel_rfl) (by kernel_rfl) (by kernel_rfl) (by kernel_rfl)) ?_
  intro W base args ds gs before hval0 hW hcnd hsz0 _
  have hsz : (DataW.weightsEach Try.prog (Try.f13.params.toList ++ Rows.creditActsSpec.plain.varTypes Try.prog) (ds ++ gs)).all (· ≤ reachBytes) = true := hsz0
  have hval : ∀ (j : Nat) t v, Try.f13.params[j]? = some t → args[j]? = some v → Value.okWide Try.prog W .any base t v := hval0
  have hW' := hW
  obtain ⟨p, q, hA0, hV, rfl, hfz, hnd⟩ := hW
  have hA : DataW.TrodAll enc Try.prog W 0 (fun _ => true) true Try.f13.params.toList args.toList ds p := hA0
  rw [Try.params13] at hA hval hsz
  obtain ⟨v0, vs0, d0, ds0, p0, q0, hargs, rfl, rfl, h0, r0⟩ := trodAll_cons hA
  obtain ⟨v1, vs1, d1, ds1, p1, q1, rfl, rfl, rfl, h1, r1⟩ := trodAll_cons r0
  obtain ⟨rfl, rfl, rfl⟩ := trodAll_nil r1
  obtain rfl : args = #[v0, v1] := by cases args; simp_all
  obtain ⟨rfl, rfl⟩ := trodVars_none hV
  obtain ⟨A0, n0, c0, rfl⟩ := okWide_slice Try.underlying27 (hval 0 27 v0 rfl rfl)
  have k0 := h0
  have lt0 : ∀ x ∈ p0, x.block < W.heap.size := by obtain ⟨m, hm⟩ := k0; exact DataW.trod_lt m _ _ _ hm
  obtain ⟨f0, hf0⟩ := h0
  obtain ⟨a0, ok0, A0_, c0_, hcs0, hc0, rd0⟩ := opens_T27.out hf0
  have hcs0' : Value.slice A0 n0 c0 = Value.slice A0_ a0.length c0_ := by simpa [Value.cells] using hcs0
  injection hcs0' with e1_0 e2_0 e3_0
  subst e1_0 e2_0 e3_0
  obtain ⟨A1, n1, c1, rfl⟩ := okWide_slice Try.underlying70 (hval 1 70 v1 rfl rfl)
  have k1 := h1
  have lt1 : ∀ x ∈ p1, x.block < W.heap.size := by obtain ⟨m, hm⟩ := k1; exact DataW.trod_lt m _ _ _ hm
  obtain ⟨f1, hf1⟩ := h1
  obtain ⟨a1, ok1, A1_, c1_, hcs1, hc1, rd1⟩ := opens_T70.out hf1
  have hcs1' : Value.slice A1 n1 c1 = Value.slice A1_ a1.length c1_ := by simpa [Value.cells] using hcs1
  injection hcs1' with e1_1 e2_1 e3_1
  subst e1_1 e2_1 e3_1
  clear hA0 hval0 hsz0 hsz
  refine (CrA.acts A0 c0 a0 A1 c1 a1 W rd0 hc0 rd1 hc1 (fun x hx => (Pure.i64_range (ok1.2 x hx).2.2).2)).mono fun e W' ⟨he, bel⟩ => ?_
  subst he
  exact ⟨_, rfl, _, _, _, [], _, [], hW', trodAll_mk1 (shut_bool Try.underlying4 _), (trodAll_cons_mk (Below.trod laidOut (by kernel_rfl) (of_decide_eq_true (by kernel_rfl)) k0 bel lt0) (trodAll_cons_mk (Below.trod laidOut (by kernel_rfl) (of_decide_eq_true (by kernel_rfl)) k1 bel lt1) trodAll_mk0)), rfl, bel.frame _, fun h => by cases h⟩
theorem over : Rows.creditActsRow.holds Try.pinned (OpenSpec.ofChange Rows.creditActsSpec) :=
  OpenClaim.holds_of_wide 13 Try.f13 rfl rfl rfl rfl rfl rfl rfl ⟨rfl, rfl, rfl, rfl, rfl⟩ rfl rfl rfl rfl rfl (by kernel_rfl) Try.func13 (by kernel_rfl)
    (of_decide_eq_true (by kernel_rfl)) (by unfold Func.isWrapper; first | (rw [if_pos (by decide +kernel)]; kernel_rfl) | (rw [if_neg (by decide +kernel)]; exact ⟨rfl, rfl⟩))
    (fun os started H enc _ => lifted os started H enc)
theorem proved : Rows.CreditActsSaid := over
#print axioms proved
end Go.Proofs.Ytnodcekkbbmfnaa.creditActs
namespace Go.Proofs.Ytnodcekkbbmfnaa
/-- The row, under a short name, for the claim. -/
theorem creditActs_holds : Rows.CreditActsSaid := creditActs.proved
end Go.Proofs.Ytnodcekkbbmfnaa
