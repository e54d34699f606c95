/- The law CreditRights: for all arguments its function answers true, and what is handed in stays. No condition. -/
import Derived.Test.YtnodcekkbbmfnaaRows
import Derived.Test.YtnodcekkbbmfnaaQCreditRightsx6
import Derived.Test.YtnodcekkbbmfnaaOp
import Derived.Test.YtnodcekkbbmfnaaPureCreditRights
import Derived.WalkKit
import Derived.ProofKit
import Derived.OpenShut
import Derived.ShutString
import Derived.ChangeOld
import Derived.Below
import Derived.SizedLaws
namespace Go.Proofs.Ytnodcekkbbmfnaa.creditRights
open Go.ChangeShapes Go.WideShapes Go.ChangeAt Go.RowKit Go.Proofs.Ytnodcekkbbmfnaa.QCreditRights Go.Proofs.Ytnodcekkbbmfnaa Go.Proofs.YtnodcekkbbmfnaaW.PrintWords Go.Proofs.YtnodcekkbbmfnaaW.PrintLast Go.Proofs.YtnodcekkbbmfnaaW.PrintMore
open Go.ChangeMaps (open_string shut_string)
set_option linter.unusedVariables false
theorem opens_T3 : Op.Opens Try.prog 3 (Kd.int .i64) (fun x => (Lit.int .i64 x).wf = true) :=
  Op.opens_int Try.underlying3
theorem opens_T2 : Op.Opens Try.prog 2 (Kd.int .i64) (fun x => (Lit.int .i64 x).wf = true) :=
  Op.opens_int Try.underlying2
theorem opens_T68 : Op.Opens Try.prog 68 k68 (fun x => ((Lit.int .i64 x.f0).wf = true ∧ (Lit.int .i64 x.f1).wf = true)) :=
  Op.opens_iso (fun x : S68 => (x.f0, x.f1)) (fun y => ⟨y.1, y.2⟩) (fun _ => rfl) (Op.opens_struct Try.underlying68 (by kernel_rfl) (Op.opensF_cons rfl (by kernel_rfl) opens_T3 (Op.opensF_one rfl (by kernel_rfl) opens_T2)))
theorem opens_T27 : Op.Opens Try.prog 27 (Kd.slice 68 k68) (fun x => (x.length ≤ maxLen ∧ ∀ x_ ∈ x, ((Lit.int .i64 x_.f0).wf = true ∧ (Lit.int .i64 x_.f1).wf = true))) :=
  Op.opens_slice z68 Try.underlying27 (by kernel_rfl) opens_T68
theorem opens_T56 : Op.Opens Try.prog 56 (Kd.slice 2 (Kd.int .i64)) (fun x => (x.length ≤ maxLen ∧ ∀ x_ ∈ x, (Lit.int .i64 x_).wf = true)) :=
  Op.opens_slice (0 : Int) Try.underlying56 (by kernel_rfl) opens_T2
theorem opens_T58 : Op.Opens Try.prog 58 k58 (fun x => ((x.f0.length ≤ maxLen ∧ ∀ x_ ∈ x.f0, ((Lit.int .i64 x_.f0).wf = true ∧ (Lit.int .i64 x_.f1).wf = true)) ∧ (x.f1.length ≤ maxLen ∧ ∀ x_ ∈ x.f1, (Lit.int .i64 x_).wf = true))) :=
  Op.opens_iso (fun x : S58 => (x.f0, x.f1)) (fun y => ⟨y.1, y.2⟩) (fun _ => rfl) (Op.opens_struct Try.underlying58 (by kernel_rfl) (Op.opensF_cons rfl (by kernel_rfl) opens_T27 (Op.opensF_one rfl (by kernel_rfl) opens_T56)))
theorem own : ownKnob Try.prog.godebug = none := by kernel_rfl
theorem laidOut : laidOutB Try.prog = true := by kernel_rfl
set_option maxRecDepth 100000 in
theorem lifted (os : Os) (started : os.Started) (H : Type) (enc : TypeId × Value → H) :
    ReturnsInHanded {} Try.checked os 11 .any (Rows.creditRightsSpec.pre6 enc Try.prog Try.f11 Rows.creditRightsRow.domain false) (Rows.creditRightsSpec.post enc Try.prog Try.f11 false true false false) := by
  refine returnsInHanded_of_change_sized (C := Try.checked) own started (by kernel_rfl) Try.func11
    (ChangeSpec.witness6 (enc := enc) (C := Try.checked) false ⟨#[], #[.agg #[.slice none 0 0, .slice none 0 0]], []⟩ 8 (by kernel_rfl) (by kernel_rfl) (by kernel_rfl) (by kernel_rfl)) ?_
  intro W base args ds gs before hval0 hW hcnd hsz0 _
  have hsz : (DataW.weightsEach Try.prog (Try.f11.params.toList ++ Rows.creditRightsSpec.plain.varTypes Try.prog) (ds ++ gs)).all (· ≤ reachBytes) = true := hsz0
  have hval : ∀ (j : Nat) t v, Try.f11.params[j]? = some t → args[j]? = some v → Value.okWide Try.prog W .any base t v := hval0
  have hW' := hW
  obtain ⟨p, q, hA0, hV, rfl, hfz, hnd⟩ := hW
  have hA : DataW.TrodAll enc Try.prog W 0 (fun _ => true) true Try.f11.params.toList args.toList ds p := hA0
  rw [Try.params11] at hA hval hsz
  obtain ⟨v0, vs0, d0, ds0, p0, q0, hargs, rfl, rfl, h0, r0⟩ := trodAll_cons hA
  obtain ⟨rfl, rfl, rfl⟩ := trodAll_nil r0
  obtain rfl : args = #[v0] := by cases args; simp_all
  obtain ⟨rfl, rfl⟩ := trodVars_none hV
  obtain ⟨cs0, rfl, csz0⟩ := okWide_struct Try.underlying58 (hval 0 58 v0 rfl rfl)
  have k0 := h0
  have lt0 : ∀ x ∈ p0, x.block < W.heap.size := by obtain ⟨m, hm⟩ := k0; exact DataW.trod_lt m _ _ _ hm
  obtain ⟨f0, hf0⟩ := h0
  obtain ⟨a0, ok0, K0⟩ := opens_T58.out hf0
  have K0' : k58.K W a0 cs0.toList := by simpa [Value.cells] using K0
  obtain ⟨X0_0, Y0_0, X0_1, Y0_1, hcs0, le0_0, rd0_0, le0_1, rd0_1⟩ := k58_open K0'
  have hcs0' : cs0 = #[.slice X0_0 a0.f0.length Y0_0, .slice X0_1 a0.f1.length Y0_1] := by rw [← Array.toArray_toList (xs := cs0), hcs0]
  subst hcs0'
  clear hA0 hval0 hsz0 hsz
  refine (stopgatelaw04_CreditRights.walk Pure.CreditRights X0_0 Y0_0 a0.f0 X0_1 Y0_1 a0.f1 W rd0_0 le0_0 rd0_1 le0_1 ok0.1 ok0.2).mono fun e W' ⟨he, bel⟩ => ?_
  subst he
  exact ⟨_, rfl, _, _, _, [], _, [], hW', trodAll_mk1 (shut_bool Try.underlying4 _), (trodAll_cons_mk (Below.trod laidOut (by kernel_rfl) (of_decide_eq_true (by kernel_rfl)) k0 bel lt0) trodAll_mk0), rfl, bel.frame _, fun h => by cases h⟩
theorem over : Rows.creditRightsRow.holds Try.pinned (OpenSpec.ofChange Rows.creditRightsSpec) :=
  OpenClaim.holds_of_wide 11 Try.f11 rfl rfl rfl rfl rfl rfl rfl ⟨rfl, rfl, rfl, rfl, rfl⟩ rfl rfl rfl rfl rfl (by kernel_rfl) Try.func11 (by kernel_rfl)
    (of_decide_eq_true (by kernel_rfl)) (by unfold Func.isWrapper; first | (rw [if_pos (by decide +kernel)]; kernel_rfl) | (rw [if_neg (by decide +kernel)]; exact ⟨rfl, rfl⟩))
    (fun os started H enc _ => lifted os started H enc)
theorem proved : Rows.CreditRightsSaid := over
#print axioms proved
end Go.Proofs.Ytnodcekkbbmfnaa.creditRights
namespace Go.Proofs.Ytnodcekkbbmfnaa
/-- The row, under a short name, for the claim. -/
theorem creditRights_holds : Rows.CreditRightsSaid := creditRights.proved
end Go.Proofs.Ytnodcekkbbmfnaa
