/- The law RulesLooks: for all arguments its function answers true, and what is handed in stays. No condition. -/
import Derived.Test.YtgikjgekdeaneaaRows
import Derived.Test.YtgikjgekdeaneaaQRulesLooksx12
import Derived.Test.YtgikjgekdeaneaaORulesLooks
import Derived.Test.YtgikjgekdeaneaaPureRulesLooks
import Derived.WalkKit
import Derived.ProofKit
import Derived.OpenShut
import Derived.ShutString
import Derived.ChangeOld
import Derived.Below
import Derived.SizedLaws
namespace Go.Proofs.Ytgikjgekdeaneaa.rulesLooks
open Go.ChangeShapes Go.WideShapes Go.ChangeAt Go.RowKit Go.Proofs.Ytgikjgekdeaneaa.QRulesLooks Go.Proofs.Ytgikjgekdeaneaa Go.Proofs.YtgikjgekdeaneaaW.PrintWords Go.Proofs.YtgikjgekdeaneaaW.PrintLast Go.Proofs.YtgikjgekdeaneaaW.PrintMore
open Go.ChangeMaps (open_string shut_string)
set_option linter.unusedVariables false
theorem opens_T3 : Op.Opens Try.prog 3 (Kd.int .i64) (fun x => (Lit.int .i64 x).wf = true) :=
  Op.opens_int Try.underlying3
theorem opens_T2 : Op.Opens Try.prog 2 (Kd.int .i64) (fun x => (Lit.int .i64 x).wf = true) :=
  Op.opens_int Try.underlying2
theorem opens_T176 : Op.Opens Try.prog 176 k176 (fun x => ((Lit.int .i64 x.f0).wf = true ∧ (Lit.int .i64 x.f1).wf = true)) :=
  Op.opens_iso (fun x : S176 => (x.f0, x.f1)) (fun y => ⟨y.1, y.2⟩) (fun _ => rfl) (Op.opens_struct Try.underlying176 (by kernel_rfl) (Op.opensF_cons rfl (by kernel_rfl) opens_T3 (Op.opensF_one rfl (by kernel_rfl) opens_T2)))
theorem opens_T75 : Op.Opens Try.prog 75 (Kd.slice 176 k176) (fun x => (x.length ≤ maxLen ∧ ∀ x_ ∈ x, ((Lit.int .i64 x_.f0).wf = true ∧ (Lit.int .i64 x_.f1).wf = true))) :=
  Op.opens_slice z176 Try.underlying75 (by kernel_rfl) opens_T176
theorem opens_T57 : Op.Opens Try.prog 57 (Kd.slice 3 (Kd.int .i64)) (fun x => (x.length ≤ maxLen ∧ ∀ x_ ∈ x, (Lit.int .i64 x_).wf = true)) :=
  Op.opens_slice (0 : Int) Try.underlying57 (by kernel_rfl) opens_T3
theorem opens_T51 : Op.Opens Try.prog 51 (Kd.int .u64) (fun x => (Lit.int .u64 x).wf = true) :=
  Op.opens_int Try.underlying51
theorem opens_T145 : Op.Opens Try.prog 145 k145 (fun x => ((Lit.int .i64 x.f0).wf = true ∧ (Lit.int .i64 x.f1).wf = true ∧ (Lit.int .i64 x.f2).wf = true ∧ (Lit.int .u64 x.f3).wf = true)) :=
  Op.opens_iso (fun x : S145 => (x.f0, x.f1, x.f2, x.f3)) (fun y => ⟨y.1, y.2.1, y.2.2.1, y.2.2.2⟩) (fun _ => rfl) (Op.opens_struct Try.underlying145 (by kernel_rfl) (Op.opensF_cons rfl (by kernel_rfl) opens_T2 (Op.opensF_cons rfl (by kernel_rfl) opens_T2 (Op.opensF_cons rfl (by kernel_rfl) opens_T2 (Op.opensF_one rfl (by kernel_rfl) opens_T51)))))
theorem opens_T76 : Op.Opens Try.prog 76 (Kd.slice 145 k145) (fun x => (x.length ≤ maxLen ∧ ∀ x_ ∈ x, ((Lit.int .i64 x_.f0).wf = true ∧ (Lit.int .i64 x_.f1).wf = true ∧ (Lit.int .i64 x_.f2).wf = true ∧ (Lit.int .u64 x_.f3).wf = true))) :=
  Op.opens_slice z145 Try.underlying76 (by kernel_rfl) opens_T145
theorem opens_T78 : Op.Opens Try.prog 78 k78 (fun x => ((Lit.int .i64 x.f0).wf = true ∧ (Lit.int .i64 x.f1).wf = true ∧ (Lit.int .i64 x.f2).wf = true ∧ (Lit.int .i64 x.f3).wf = true ∧ (x.f4.length ≤ maxLen ∧ ∀ x_ ∈ x.f4, ((Lit.int .i64 x_.f0).wf = true ∧ (Lit.int .i64 x_.f1).wf = true)) ∧ (x.f5.length ≤ maxLen ∧ ∀ x_ ∈ x.f5, (Lit.int .i64 x_).wf = true) ∧ (x.f6.length ≤ maxLen ∧ ∀ x_ ∈ x.f6, ((Lit.int .i64 x_.f0).wf = true ∧ (Lit.int .i64 x_.f1).wf = true ∧ (Lit.int .i64 x_.f2).wf = true ∧ (Lit.int .u64 x_.f3).wf = true)))) :=
  Op.opens_iso (fun x : S78 => (x.f0, x.f1, x.f2, x.f3, x.f4, x.f5, x.f6)) (fun y => ⟨y.1, y.2.1, y.2.2.1, y.2.2.2.1, y.2.2.2.2.1, y.2.2.2.2.2.1, y.2.2.2.2.2.2⟩) (fun _ => rfl) (Op.opens_struct Try.underlying78 (by kernel_rfl) (Op.opensF_cons rfl (by kernel_rfl) opens_T3 (Op.opensF_cons rfl (by kernel_rfl) opens_T3 (Op.opensF_cons rfl (by kernel_rfl) opens_T3 (Op.opensF_cons rfl (by kernel_rfl) opens_T3 (Op.opensF_cons rfl (by kernel_rfl) opens_T75 (Op.opensF_cons rfl (by kernel_rfl) opens_T57 (Op.opensF_one rfl (by kernel_rfl) opens_T76))))))))
theorem opens_T4 : Op.Opens Try.prog 4 Kd.bool (fun x => True) :=
  Op.opens_bool Try.underlying4
theorem opens_T23 : Op.Opens Try.prog 23 k23 (fun x => ((Lit.int .i64 x.f0).wf = true ∧ (Lit.int .i64 x.f1).wf = true ∧ True ∧ (Lit.int .i64 x.f3).wf = true ∧ (Lit.int .i64 x.f4).wf = true ∧ (Lit.int .i64 x.f5).wf = true ∧ (Lit.int .i64 x.f6).wf = true)) :=
  Op.opens_iso (fun x : S23 => (x.f0, x.f1, x.f2, x.f3, x.f4, x.f5, x.f6)) (fun y => ⟨y.1, y.2.1, y.2.2.1, y.2.2.2.1, y.2.2.2.2.1, y.2.2.2.2.2.1, y.2.2.2.2.2.2⟩) (fun _ => rfl) (Op.opens_struct Try.underlying23 (by kernel_rfl) (Op.opensF_cons rfl (by kernel_rfl) opens_T3 (Op.opensF_cons rfl (by kernel_rfl) opens_T3 (Op.opensF_cons rfl (by kernel_rfl) opens_T4 (Op.opensF_cons rfl (by kernel_rfl) opens_T2 (Op.opensF_cons rfl (by kernel_rfl) opens_T2 (Op.opensF_cons rfl (by kernel_rfl) opens_T2 (Op.opensF_one rfl (by kernel_rfl) opens_T2))))))))
theorem own : ownKnob Try.prog.godebug = none := by kernel_rfl
theorem laidOut : laidOutB Try.prog = true := by kernel_rfl
set_option maxRecDepth 100000 in
theorem lifted (os : Os) (started : os.Started) (H : Type) (enc : TypeId × Value → H) :
    ReturnsInHanded {} Try.checked os 13 .any (Rows.rulesLooksSpec.pre6 enc Try.prog Try.f13 Rows.rulesLooksRow.domain false) (Rows.rulesLooksSpec.post enc Try.prog Try.f13 false true false false) := by
  refine returnsInHanded_of_change_sized (C := Try.checked) own started (by kernel_rfl) Try.func13
    (ChangeSpec.witness6 (enc := enc) (C := Try.checked) false ⟨#[], #[.agg #[.int .i64 0, .int .i64 0, .int .i64 0, .int .i64 0, .slice none 0 0, .slice none 0 0, .slice none 0 0], .agg #[.int .i64 0, .int .i64 0, .bool false, .int .i64 0, .int .i64 0, .int .i64 0, .int .i64 0]], []⟩ 8 (by kernel_rfl) (by kernel_rfl) (by kernel_rfl) (by kernel_rfl)) ?_
  intro W base args ds gs before hval0 hW hcnd hsz0 _
  have hsz : (DataW.weightsEach Try.prog (Try.f13.params.toList ++ Rows.rulesLooksSpec.plain.varTypes Try.prog) (ds ++ gs)).all (· ≤ reachBytes) = true := hsz0
  have hval : ∀ (j : Nat) t v, Try.f13.params[j]? = some t → args[j]? = some v → Value.okWide Try.prog W .any base t v := hval0
  have hW' := hW
  obtain ⟨p, q, hA0, hV, rfl, hfz, hnd⟩ := hW
  have hA : DataW.TrodAll enc Try.prog W 0 (fun _ => true) true Try.f13.params.toList args.toList ds p := hA0
  rw [Try.params13] at hA hval hsz
  obtain ⟨v0, vs0, d0, ds0, p0, q0, hargs, rfl, rfl, h0, r0⟩ := trodAll_cons hA
  obtain ⟨v1, vs1, d1, ds1, p1, q1, rfl, rfl, rfl, h1, r1⟩ := trodAll_cons r0
  obtain ⟨rfl, rfl, rfl⟩ := trodAll_nil r1
  obtain rfl : args = #[v0, v1] := by cases args; simp_all
  obtain ⟨rfl, rfl⟩ := trodVars_none hV
  obtain ⟨cs0, rfl, csz0⟩ := okWide_struct Try.underlying78 (hval 0 78 v0 rfl rfl)
  have k0 := h0
  have lt0 : ∀ x ∈ p0, x.block < W.heap.size := by obtain ⟨m, hm⟩ := k0; exact DataW.trod_lt m _ _ _ hm
  obtain ⟨f0, hf0⟩ := h0
  obtain ⟨a0, ok0, K0⟩ := opens_T78.out hf0
  have K0' : k78.K W a0 cs0.toList := by simpa [Value.cells] using K0
  obtain ⟨X0_4, Y0_4, X0_5, Y0_5, X0_6, Y0_6, hcs0, le0_4, rd0_4, le0_5, rd0_5, le0_6, rd0_6⟩ := k78_open K0'
  have hcs0' : cs0 = #[.int .i64 a0.f0, .int .i64 a0.f1, .int .i64 a0.f2, .int .i64 a0.f3, .slice X0_4 a0.f4.length Y0_4, .slice X0_5 a0.f5.length Y0_5, .slice X0_6 a0.f6.length Y0_6] := by rw [← Array.toArray_toList (xs := cs0), hcs0]
  subst hcs0'
  obtain ⟨cs1, rfl, csz1⟩ := okWide_struct Try.underlying23 (hval 1 23 v1 rfl rfl)
  have k1 := h1
  have lt1 : ∀ x ∈ p1, x.block < W.heap.size := by obtain ⟨m, hm⟩ := k1; exact DataW.trod_lt m _ _ _ hm
  obtain ⟨f1, hf1⟩ := h1
  obtain ⟨a1, ok1, K1⟩ := opens_T23.out hf1
  have K1' : k23.K W a1 cs1.toList := by simpa [Value.cells] using K1
  obtain hcs1 := k23_open K1'
  have hcs1' : cs1 = #[.int .i64 a1.f0, .int .i64 a1.f1, .bool a1.f2, .int .i64 a1.f3, .int .i64 a1.f4, .int .i64 a1.f5, .int .i64 a1.f6] := by rw [← Array.toArray_toList (xs := cs1), hcs1]
  subst hcs1'
  clear hA0 hval0 hsz0 hsz
  refine (stopgatelaw05_RulesLooks.walk Pure.RulesLooks a0.f0 a0.f1 a0.f2 a0.f3 X0_4 Y0_4 a0.f4 X0_5 Y0_5 a0.f5 X0_6 Y0_6 a0.f6 a1.f0 a1.f1 a1.f2 a1.f3 a1.f4 a1.f5 a1.f6 W rd0_4 le0_4 rd0_5 le0_5 rd0_6 le0_6 ok0.1 ok0.2.1 ok0.2.2.1 ok0.2.2.2.1 ok0.2.2.2.2.1 ok0.2.2.2.2.2.1 ok0.2.2.2.2.2.2 ok1.1 ok1.2.1 ok1.2.2.2.1 ok1.2.2.2.2.1 ok1.2.2.2.2.2.1 ok1.2.2.2.2.2.2).mono fun e W' ⟨he, bel⟩ => ?_
  subst he
  exact ⟨_, rfl, _, _, _, [], _, [], hW', trodAll_mk1 (shut_bool Try.underlying4 _), (trodAll_cons_mk (Below.trod laidOut (by kernel_rfl) (of_decide_eq_true (by kernel_rfl)) k0 bel lt0) (trodAll_cons_mk (Below.trod laidOut (by kernel_rfl) (of_decide_eq_true (by kernel_rfl)) k1 bel lt1) trodAll_mk0)), rfl, bel.frame _, fun h => by cases h⟩
theorem over : Rows.rulesLooksRow.holds Try.pinned (OpenSpec.ofChange Rows.rulesLooksSpec) :=
  OpenClaim.holds_of_wide 13 Try.f13 rfl rfl rfl rfl rfl rfl rfl ⟨rfl, rfl, rfl, rfl, rfl⟩ rfl rfl rfl rfl rfl (by kernel_rfl) Try.func13 (by kernel_rfl)
    (of_decide_eq_true (by kernel_rfl)) (by unfold Func.isWrapper; first | (rw [if_pos (by decide +kernel)]; kernel_rfl) | (rw [if_neg (by decide +kernel)]; exact ⟨rfl, rfl⟩))
    (fun os started H enc _ => lifted os started H enc)
theorem proved : Rows.RulesLooksSaid := over
#print axioms proved
end Go.Proofs.Ytgikjgekdeaneaa.rulesLooks
namespace Go.Proofs.Ytgikjgekdeaneaa
/-- The row, under a short name, for the claim. -/
theorem rulesLooks_holds : Rows.RulesLooksSaid := rulesLooks.proved
end Go.Proofs.Ytgikjgekdeaneaa
