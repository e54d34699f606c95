/- The law CreditBack: for all arguments its function answers true, and what is handed in stays. No condition. -/
import Derived.Test.YtnodcekkbbmfnaaRows
import Derived.Test.YtnodcekkbbmfnaaCrB
import Derived.Test.YtnodcekkbbmfnaaOCrB
import Derived.WalkKit
import Derived.ProofKit
import Derived.OpenShut
import Derived.ShutString
import Derived.ChangeOld
import Derived.Below
import Derived.SizedLaws
namespace Go.Proofs.Ytnodcekkbbmfnaa.creditBack
open Go.ChangeShapes Go.WideShapes Go.ChangeAt Go.RowKit Go.Proofs.Ytnodcekkbbmfnaa.QCrB Go.Proofs.Ytnodcekkbbmfnaa Go.Proofs.YtnodcekkbbmfnaaW.PrintWords Go.Proofs.YtnodcekkbbmfnaaW.PrintLast Go.Proofs.YtnodcekkbbmfnaaW.PrintMore
open Go.ChangeMaps (open_string shut_string)
set_option linter.unusedVariables false
theorem opens_T3 : Op.Opens Try.prog 3 (Kd.int .i64) (fun x => (Lit.int .i64 x).wf = true) :=
  Op.opens_int Try.underlying3
theorem opens_T2 : Op.Opens Try.prog 2 (Kd.int .i64) (fun x => (Lit.int .i64 x).wf = true) :=
  Op.opens_int Try.underlying2
theorem opens_T68 : Op.Opens Try.prog 68 k68 (fun x => ((Lit.int .i64 x.f0).wf = true ∧ (Lit.int .i64 x.f1).wf = true)) :=
  Op.opens_iso (fun x : S68 => (x.f0, x.f1)) (fun y => ⟨y.1, y.2⟩) (fun _ => rfl) (Op.opens_struct Try.underlying68 (by kernel_rfl) (Op.opensF_cons rfl (by kernel_rfl) opens_T3 (Op.opensF_one rfl (by kernel_rfl) opens_T2)))
theorem opens_T27 : Op.Opens Try.prog 27 (Kd.slice 68 k68) (fun x => (x.length ≤ maxLen ∧ ∀ x_ ∈ x, ((Lit.int .i64 x_.f0).wf = true ∧ (Lit.int .i64 x_.f1).wf = true))) :=
  Op.opens_slice z68 Try.underlying27 (by kernel_rfl) opens_T68
theorem u86 : Try.prog.underlying 86 = some (.array 2 2) := by kernel_rfl
theorem c86 : Try.prog.cellsOf 86 = 2 := by kernel_rfl
theorem c2_ : Try.prog.cellsOf 2 = 1 := by kernel_rfl
theorem trod_array2 {H : Type} {enc : TypeId × Value → H} {P : Program} {w : World} {base : Nat} {spare : Nat → Bool} {held : Bool} {t e : TypeId} {fuel : Nat} {c0 c1 : Value} {x : DataW H × List MemPlace} (ht : P.underlying t = some (.array 2 e)) (hce : P.cellsOf e = 1)
    (h : DataW.trod enc P w base spare held fuel t [c0, c1] = some x) :
    ∃ y0 y1 n, x = (.agg [y0.1, y1.1], y0.2 ++ y1.2) ∧ DataW.trod enc P w base spare held n e [c0] = some y0 ∧ DataW.trod enc P w base spare held n e [c1] = some y1 := by
  cases fuel with
  | zero => simp [DataW.trod] at h
  | succ n =>
    unfold DataW.trod at h
    rw [ht] at h
    have r2 : List.range 2 = [0, 1] := rfl
    simp [r2, hce] at h
    obtain ⟨_, h⟩ := h
    cases h0 : DataW.trod enc P w base spare held n e [c0] with
    | none => simp [h0] at h
    | some y0 =>
      cases h1 : DataW.trod enc P w base spare held n e [c1] with
      | none => simp [h0, h1] at h
      | some y1 =>
        simp [h0, h1] at h
        exact ⟨y0, y1, n, h.symm, h0, h1⟩
theorem agg2 {H : Type} {enc : TypeId × Value → H} {P : Program} {w : World} {base : Nat} {spare : Nat → Bool} {held : Bool} {t e : TypeId} {r : Reach} {b : Nat} {v : Value} {d : DataW H} {p : List MemPlace} (ht : P.underlying t = some (.array 2 e)) (hc : P.cellsOf t = 2) (hce : P.cellsOf e = 1) (hue : P.underlying e = some (.int .i64))
    (ho : Value.okWide P w r b t v) (hd : DataW.Trod enc P w base spare held t v d p) : ∃ lf cp, v = .agg #[.int .i64 lf, .int .i64 cp] := by
  simp only [Value.okWide, ht] at ho
  obtain ⟨xs, rfl, hs, _⟩ := ho
  obtain ⟨f, hf⟩ := hd
  rw [hc] at hs
  obtain ⟨xl⟩ := xs
  have hl : xl.length = 2 := hs
  match xl, hl with
  | [x0, x1], _ =>
    have hf' : DataW.trod enc P w base spare held f t [x0, x1] = some (d, p) := by simpa [Value.cells] using hf
    obtain ⟨y0, y1, n, _, g0, g1⟩ := trod_array2 ht hce hf'
    obtain ⟨i0, e0, _, _⟩ := DataW.trod_int hue g0
    obtain ⟨i1, e1, _, _⟩ := DataW.trod_int hue g1
    simp at e0 e1
    subst e0 e1
    exact ⟨i0, i1, rfl⟩
theorem opens_T56 : Op.Opens Try.prog 56 (Kd.slice 2 (Kd.int .i64)) (fun x => (x.length ≤ maxLen ∧ ∀ x_ ∈ x, (Lit.int .i64 x_).wf = true)) :=
  Op.opens_slice (0 : Int) (show Try.prog.underlying 56 = some (.slice 2) by kernel_rfl) (by kernel_rfl) opens_T2
theorem own : ownKnob Try.prog.godebug = none := by kernel_rfl
theorem laidOut : laidOutB Try.prog = true := by kernel_rfl
set_option maxRecDepth 100000 in
theorem lifted (os : Os) (started : os.Started) (H : Type) (enc : TypeId × Value → H) :
    ReturnsInHanded {} Try.checked os 14 .any (Rows.creditBackSpec.pre6 enc Try.prog Try.f14 Rows.creditBackRow.domain false) (Rows.creditBackSpec.post enc Try.prog Try.f14 false true false false) := by
  refine returnsInHanded_of_change_sized (C := Try.checked) own started (by kernel_rfl) Try.func14
    (ChangeSpec.witness6 (enc := enc) (C := Try.checked) false ⟨#[], #[.slice none 0 0, .agg #[.int .i64 0, .int .i64 0], .slice none 0 0], []⟩ 8 (by kernel_rfl) (by kernel_rfl) (by kernel_rfl) (by kernel_rfl)) ?_
  intro W base args ds gs before hval0 hW hcnd hsz0 _
  have hsz : (DataW.weightsEach Try.prog (Try.f14.params.toList ++ Rows.creditBackSpec.plain.varTypes Try.prog) (ds ++ gs)).all (· ≤ reachBytes) = true := hsz0
  have hval : ∀ (j : Nat) t v, Try.f14.params[j]? = some t → args[j]? = some v → Value.okWide Try.prog W .any base t v := hval0
  have hW' := hW
  obtain ⟨p, q, hA0, hV, rfl, hfz, hnd⟩ := hW
  have hA : DataW.TrodAll enc Try.prog W 0 (fun _ => true) true Try.f14.params.toList args.toList ds p := hA0
  rw [Try.params14] at hA hval hsz
  obtain ⟨v0, vs0, d0, ds0, p0, q0, hargs, rfl, rfl, h0, r0⟩ := trodAll_cons hA
  obtain ⟨v1, vs1, d1, ds1, p1, q1, rfl, rfl, rfl, h1, r1⟩ := trodAll_cons r0
  obtain ⟨v2, vs2, d2, ds2, p2, q2, rfl, rfl, rfl, h2, r2⟩ := trodAll_cons r1
  obtain ⟨rfl, rfl, rfl⟩ := trodAll_nil r2
  obtain rfl : args = #[v0, v1, v2] := by cases args; simp_all
  obtain ⟨rfl, rfl⟩ := trodVars_none hV
  obtain ⟨A0, n0, c0, rfl⟩ := okWide_slice Try.underlying27 (hval 0 27 v0 rfl rfl)
  have k0 := h0
  have lt0 : ∀ x ∈ p0, x.block < W.heap.size := by obtain ⟨m, hm⟩ := k0; exact DataW.trod_lt m _ _ _ hm
  obtain ⟨f0, hf0⟩ := h0
  obtain ⟨a0, ok0, A0_, c0_, hcs0, hc0, rd0⟩ := opens_T27.out hf0
  have hcs0' : Value.slice A0 n0 c0 = Value.slice A0_ a0.length c0_ := by simpa [Value.cells] using hcs0
  injection hcs0' with e1_0 e2_0 e3_0
  subst e1_0 e2_0 e3_0
  have k1 := h1
  have lt1 : ∀ x ∈ p1, x.block < W.heap.size := by obtain ⟨m, hm⟩ := k1; exact DataW.trod_lt m _ _ _ hm
  obtain ⟨lf, cp, rfl⟩ := agg2 u86 c86 c2_ Try.underlying2 (hval 1 86 v1 rfl rfl) h1
  obtain ⟨A2, n2, c2, rfl⟩ := okWide_slice Try.underlying56 (hval 2 56 v2 rfl rfl)
  have k2 := h2
  have lt2 : ∀ x ∈ p2, x.block < W.heap.size := by obtain ⟨m, hm⟩ := k2; exact DataW.trod_lt m _ _ _ hm
  obtain ⟨f2, hf2⟩ := h2
  obtain ⟨a2, ok2, A2_, c2_, hcs2, hc2, rd2⟩ := opens_T56.out hf2
  have hcs2' : Value.slice A2 n2 c2 = Value.slice A2_ a2.length c2_ := by simpa [Value.cells] using hcs2
  injection hcs2' with e1_2 e2_2 e3_2
  subst e1_2 e2_2 e3_2
  clear hA0 hval0 hsz0 hsz
  refine (CrB.back A0 c0 a0 lf cp A2 c2 a2 W rd0 hc0 rd2 hc2 (fun x hx => (Pure.i64_range (ok2.2 x hx)).2)).mono fun e W' ⟨he, bel⟩ => ?_
  subst he
  exact ⟨_, rfl, _, _, _, [], _, [], hW', trodAll_mk1 (shut_bool Try.underlying4 _), (trodAll_cons_mk (Below.trod laidOut (by kernel_rfl) (of_decide_eq_true (by kernel_rfl)) k0 bel lt0) (trodAll_cons_mk (Below.trod laidOut (by kernel_rfl) (of_decide_eq_true (by kernel_rfl)) k1 bel lt1) (trodAll_cons_mk (Below.trod laidOut (by kernel_rfl) (of_decide_eq_true (by kernel_rfl)) k2 bel lt2) trodAll_mk0))), rfl, bel.frame _, fun h => by cases h⟩
theorem over : Rows.creditBackRow.holds Try.pinned (OpenSpec.ofChange Rows.creditBackSpec) :=
  OpenClaim.holds_of_wide 14 Try.f14 rfl rfl rfl rfl rfl rfl rfl ⟨rfl, rfl, rfl, rfl, rfl⟩ rfl rfl rfl rfl rfl (by kernel_rfl) Try.func14 (by kernel_rfl)
    (of_decide_eq_true (by kernel_rfl)) (by unfold Func.isWrapper; first | (rw [if_pos (by decide +kernel)]; kernel_rfl) | (rw [if_neg (by decide +kernel)]; exact ⟨rfl, rfl⟩))
    (fun os started H enc _ => lifted os started H enc)
theorem proved : Rows.CreditBackSaid := over
#print axioms proved
end Go.Proofs.Ytnodcekkbbmfnaa.creditBack
namespace Go.Proofs.Ytnodcekkbbmfnaa
/-- The row, under a short name, for the claim. -/
theorem creditBack_holds : Rows.CreditBackSaid := creditBack.proved
end Go.Proofs.Ytnodcekkbbmfnaa
