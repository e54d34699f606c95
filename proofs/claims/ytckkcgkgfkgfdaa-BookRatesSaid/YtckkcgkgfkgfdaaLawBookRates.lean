/- The law BookRates: for all arguments its function answers true, and what is handed in stays. No condition. -/
import Derived.Test.YtckkcgkgfkgfdaaRows
import Derived.Test.YtckkcgkgfkgfdaaCL2
import Derived.Test.YtckkcgkgfkgfdaaAmX
import Derived.WalkKit
import Derived.ProofKit
import Derived.OpenShut
import Derived.ShutString
import Derived.ChangeOld
import Derived.Below
import Derived.SizedLaws
namespace Go.Proofs.Ytckkcgkgfkgfdaa.bookRates
open Go.ChangeShapes Go.WideShapes Go.ChangeAt Go.RowKit Go.Proofs.Ytckkcgkgfkgfdaa Go.Proofs.Ytckkcgkgfkgfdaa.AM Ytckkcgkgfkgfdaa
open Go.ChangeMaps (open_string shut_string)
set_option linter.unusedVariables false
theorem op2 : AOp Try.prog 2 1 (fun n => .int false .i64 n) (fun n => (Lit.int .i64 n).wf = true) := aop_int Try.underlying2
theorem op58 : AOp Try.prog 58 1 (fun xs : List Int => .mlist 1 false false Int eI 0 xs) (fun xs => xs.length ≤ maxLen ∧ ∀ x ∈ xs, (Lit.int .i64 x).wf = true) := aop_slice 0 Try.underlying58 (by kernel_rfl) (by decide) op2
theorem own : ownKnob Try.prog.godebug = none := by kernel_rfl
theorem laidOut : laidOutB Try.prog = true := by kernel_rfl
set_option maxRecDepth 100000 in
theorem lifted (os : Os) (started : os.Started) (H : Type) (enc : TypeId × Value → H) :
    ReturnsInHanded {} Try.checked os 4 .any (Rows.bookRatesSpec.pre6 enc Try.prog Try.f4 Rows.bookRatesRow.domain false) (Rows.bookRatesSpec.post enc Try.prog Try.f4 false true false false) := by
  refine returnsInHanded_of_change_sized (C := Try.checked) own started (by kernel_rfl) Try.func4
    (ChangeSpec.witness6 (enc := enc) (C := Try.checked) false ⟨#[], #[.int .i64 0, .slice none 0 0], []⟩ 8 (by kernel_rfl) (by kernel_rfl) (by kernel_rfl) (by kernel_rfl)) ?_
  intro W base args ds gs before hval0 hW hcnd hsz0 _
  have hval : ∀ (j : Nat) t v, Try.f4.params[j]? = some t → args[j]? = some v → Value.okWide Try.prog W .any base t v := hval0
  have hW' := hW
  obtain ⟨p, q, hA0, hV, rfl, hfz, hnd⟩ := hW
  have hA : DataW.TrodAll enc Try.prog W 0 (fun _ => true) true Try.f4.params.toList args.toList ds p := hA0
  rw [Try.params4] at hA hval
  obtain ⟨v0, vs0, d0, ds0, p0, q0, hargs, rfl, rfl, h0, r0⟩ := trodAll_cons hA
  obtain ⟨v1, vs1, d1, ds1, p1, q1, rfl, rfl, rfl, h1, r1⟩ := trodAll_cons r0
  obtain ⟨rfl, rfl, rfl⟩ := trodAll_nil r1
  obtain rfl : args = #[v0, v1] := by cases args; simp_all
  obtain ⟨rfl, rfl⟩ := trodVars_none hV
  obtain ⟨n0, rfl⟩ := okWide_int Try.underlying3 (hval 0 3 v0 rfl rfl)
  have k0 := h0
  have lt0 : ∀ x ∈ p0, x.block < W.heap.size := by obtain ⟨m, hm⟩ := k0; exact DataW.trod_lt m _ _ _ hm
  obtain ⟨A1, n1, c1, rfl⟩ := okWide_slice Try.underlying58 (hval 1 58 v1 rfl rfl)
  have k1 := h1
  have lt1 : ∀ x ∈ p1, x.block < W.heap.size := by obtain ⟨m, hm⟩ := k1; exact DataW.trod_lt m _ _ _ hm
  obtain ⟨f1, hf1⟩ := h1
  obtain ⟨a1, ok1, hc1, _⟩ := op58.out hf1
  clear hA0 hval0 hsz0
  refine (am_run (vs := [.int .i64 n0, .slice A1 n1 c1]) ⟨_, Try.func4, by kernel_rfl, by kernel_rfl⟩ (c4 rfl n0 false false a1 ok1.1 0) ⟨_, _, rfl, rfl, _, _, rfl, hc1.1, rfl⟩).mono fun e W' ⟨he, bel⟩ => ?_
  subst he
  exact ⟨_, rfl, _, _, _, [], _, [], hW', trodAll_mk1 (shut_bool Try.underlying4 _), (trodAll_cons_mk (Below.trod laidOut (by kernel_rfl) (of_decide_eq_true (by kernel_rfl)) k0 bel lt0) (trodAll_cons_mk (Below.trod laidOut (by kernel_rfl) (of_decide_eq_true (by kernel_rfl)) k1 bel lt1) trodAll_mk0)), rfl, bel.frame _, fun h => by cases h⟩
theorem over : Rows.bookRatesRow.holds Try.pinned (OpenSpec.ofChange Rows.bookRatesSpec) :=
  OpenClaim.holds_of_wide 4 Try.f4 rfl rfl rfl rfl rfl rfl rfl ⟨rfl, rfl, rfl, rfl, rfl⟩ rfl rfl rfl rfl rfl (by kernel_rfl) Try.func4 (by kernel_rfl)
    (of_decide_eq_true (by kernel_rfl)) (by unfold Func.isWrapper; first | (rw [if_pos (by decide +kernel)]; kernel_rfl) | (rw [if_neg (by decide +kernel)]; exact ⟨rfl, rfl⟩))
    (fun os started H enc _ => lifted os started H enc)
theorem proved : Rows.BookRatesSaid := over
#print axioms proved
end Go.Proofs.Ytckkcgkgfkgfdaa.bookRates
namespace Go.Proofs.Ytckkcgkgfkgfdaa
/-- The row, under a short name, for the claim. -/
theorem bookRates_holds : Rows.BookRatesSaid := bookRates.proved
end Go.Proofs.Ytckkcgkgfkgfdaa
