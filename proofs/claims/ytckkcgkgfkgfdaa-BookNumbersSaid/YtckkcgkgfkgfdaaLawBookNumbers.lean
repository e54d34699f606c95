/- The law BookNumbers: for all arguments its function answers true, and what is handed in stays. No condition. -/
import Derived.Test.YtckkcgkgfkgfdaaRows
import Derived.Test.YtckkcgkgfkgfdaaCL3
import Derived.Test.YtckkcgkgfkgfdaaCN1
import Derived.WalkKit
import Derived.ProofKit
import Derived.OpenShut
import Derived.ShutString
import Derived.ChangeOld
import Derived.Below
import Derived.SizedLaws
namespace Go.Proofs.Ytckkcgkgfkgfdaa.bookNumbers
open Go.ChangeShapes Go.WideShapes Go.ChangeAt Go.RowKit Go.Proofs.Ytckkcgkgfkgfdaa Go.Proofs.Ytckkcgkgfkgfdaa.AM Ytckkcgkgfkgfdaa
open Go.ChangeMaps (open_string shut_string)
set_option linter.unusedVariables false
theorem mapk {P : Program} {t : TypeId} {α β : Type} {sz : Nat} {enc : α → AV} {ok : α → Prop} (h : AOp P t sz enc ok) {enc' : β → AV} {ok' : β → Prop} (f : α → β) (he : ∀ a, ok a → enc' (f a) = enc a) (ho : ∀ a, ok a → ok' (f a)) : AOp P t sz enc' ok' := by
  constructor
  intro H en w spare held fuel cs x hx
  obtain ⟨a, h1, h2, h3⟩ := h.out hx
  exact ⟨f a, ho a h1, by rw [he a h1]; exact h2, h3⟩
theorem op2 : AOp Try.prog 2 1 (fun n => .int false .i64 n) (fun n => (Lit.int .i64 n).wf = true) := aop_int Try.underlying2
theorem op3 : AOp Try.prog 3 1 (fun n => .int false .i64 n) (fun n => (Lit.int .i64 n).wf = true) := aop_int Try.underlying3
theorem op35 : AOp Try.prog 35 1 (fun n => .int false .u64 n) (fun n => (Lit.int .u64 n).wf = true) := aop_int Try.underlying35
theorem op85 : AOp Try.prog 85 4 eSymB (fun _ => True) :=
  mapk (aop_struct Try.underlying85 (by kernel_rfl) (aopF_cons rfl (by kernel_rfl) (fun _ => rfl) op2 (aopF_cons rfl (by kernel_rfl) (fun _ => rfl) op2 (aopF_cons rfl (by kernel_rfl) (fun _ => rfl) op2 (aopF_cons rfl (by kernel_rfl) (fun _ => rfl) op35 aopF_nil)))))
    (fun a => (⟨a.1, a.2.1, a.2.2.1, a.2.2.2.1.toNat⟩ : Sym)) (fun a ha => by
      have h : (Lit.int .u64 a.2.2.2.1).wf = true := ha.2.2.2.1
      have h0 : 0 ≤ a.2.2.2.1 := by
        simp [Lit.wf] at h
        have e : IntKind.u64.min = 0 := by kernel_rfl
        omega
      show AV.agg [_, _, _, .int false .u64 ((a.2.2.2.1.toNat : Nat) : Int)] = _
      rw [Int.toNat_of_nonneg h0]) (fun _ _ => trivial)
theorem op124 : AOp Try.prog 124 2 eNod (fun _ => True) :=
  mapk (aop_struct Try.underlying124 (by kernel_rfl) (aopF_cons rfl (by kernel_rfl) (fun _ => rfl) op3 (aopF_cons rfl (by kernel_rfl) (fun _ => rfl) op2 aopF_nil)))
    (fun a => (⟨a.1, a.2.1⟩ : Nod)) (fun a _ => rfl) (fun _ _ => trivial)
theorem op26 : AOpW Try.prog 26 7 (eConf false false) (fun c => c.symbols.length ≤ 4398046511104 ∧ c.nodes.length < 9223372036854775807 ∧ c.accounts.length < 9223372036854775807) :=
  (aopW_struct Try.underlying26 (by kernel_rfl) (aopFW_cons rfl (by kernel_rfl) (fun _ => rfl) op3.w (aopFW_cons rfl (by kernel_rfl) (fun _ => rfl) op3.w (aopFW_cons rfl (by kernel_rfl) (fun _ => rfl) op3.w (aopFW_cons rfl (by kernel_rfl) (fun _ => rfl) op3.w
    (aopFW_cons rfl (by kernel_rfl) (fun _ => rfl) (aopW_slice dNod Try.underlying22 (by kernel_rfl) (by decide) op124) (aopFW_cons rfl (by kernel_rfl) (fun _ => rfl) (aopW_slice 0 Try.underlying23 (by kernel_rfl) (by decide) op3) (aopFW_cons rfl (by kernel_rfl) (fun _ => rfl) (aopW_slice dSym Try.underlying24 (by kernel_rfl) (by decide) op85) aopFW_nil)))))))).map
    (fun a => (⟨a.1, a.2.1, a.2.2.1, a.2.2.2.1, a.2.2.2.2.1, a.2.2.2.2.2.1, a.2.2.2.2.2.2.1⟩ : Cfg)) (fun a => rfl) (fun a ha => by
      have h1 := ha.2.2.2.2.1.1
      have h2 := ha.2.2.2.2.2.1.1
      have h3 := ha.2.2.2.2.2.2.1.1
      rw [show Try.prog.bytesOf 124 = 16 by kernel_rfl] at h1
      rw [show Try.prog.bytesOf 3 = 8 by kernel_rfl] at h2
      rw [show Try.prog.bytesOf 85 = 32 by kernel_rfl] at h3
      unfold reachBytes at h1 h2 h3
      refine ⟨?_, ?_, ?_⟩
      · show a.2.2.2.2.2.2.1.length ≤ _; omega
      · show a.2.2.2.2.1.length < _; omega
      · show a.2.2.2.2.2.1.length < _; omega)
theorem own : ownKnob Try.prog.godebug = none := by kernel_rfl
theorem laidOut : laidOutB Try.prog = true := by kernel_rfl
set_option maxRecDepth 100000 in
theorem lifted (os : Os) (started : os.Started) (H : Type) (enc : TypeId × Value → H) :
    ReturnsInHanded {} Try.checked os 3 .any (Rows.bookNumbersSpec.pre6 enc Try.prog Try.f3 Rows.bookNumbersRow.domain false) (Rows.bookNumbersSpec.post enc Try.prog Try.f3 false true false false) := by
  refine returnsInHanded_of_change_sized (C := Try.checked) own started (by kernel_rfl) Try.func3
    (ChangeSpec.witness6 (enc := enc) (C := Try.checked) false ⟨#[], #[.agg #[.int .i64 0, .int .i64 0, .int .i64 0, .int .i64 0, .slice none 0 0, .slice none 0 0, .slice none 0 0], .int .i64 0, .int .i64 0], []⟩ 8 (by kernel_rfl) (by kernel_rfl) (by kernel_rfl) (by kernel_rfl)) ?_
  intro W base args ds gs before hval0 hW hcnd hsz0 _
  have hval : ∀ (j : Nat) t v, Try.f3.params[j]? = some t → args[j]? = some v → Value.okWide Try.prog W .any base t v := hval0
  have hsz : (DataW.weightsEach Try.prog (Try.f3.params.toList ++ Rows.bookNumbersSpec.plain.varTypes Try.prog) (ds ++ gs)).all (· ≤ reachBytes) = true := hsz0
  have hW' := hW
  obtain ⟨p, q, hA0, hV, rfl, hfz, hnd⟩ := hW
  have hA : DataW.TrodAll enc Try.prog W 0 (fun _ => true) true Try.f3.params.toList args.toList ds p := hA0
  rw [Try.params3] at hA hval hsz
  obtain ⟨v0, vs0, d0, ds0, p0, q0, hargs, rfl, rfl, h0, r0⟩ := trodAll_cons hA
  obtain ⟨v1, vs1, d1, ds1, p1, q1, rfl, rfl, rfl, h1, r1⟩ := trodAll_cons r0
  obtain ⟨v2, vs2, d2, ds2, p2, q2, rfl, rfl, rfl, h2, r2⟩ := trodAll_cons r1
  obtain ⟨rfl, rfl, rfl⟩ := trodAll_nil r2
  obtain rfl : args = #[v0, v1, v2] := by cases args; simp_all
  obtain ⟨rfl, rfl⟩ := trodVars_none hV
  obtain ⟨cs0, rfl, hcs0⟩ := okWide_struct Try.underlying26 (hval 0 26 v0 rfl rfl)
  obtain ⟨n1, rfl⟩ := okWide_int Try.underlying3 (hval 1 3 v1 rfl rfl)
  obtain ⟨n2, rfl⟩ := okWide_int Try.underlying3 (hval 2 3 v2 rfl rfl)
  have k0 := h0
  have lt0 : ∀ x ∈ p0, x.block < W.heap.size := by obtain ⟨m, hm⟩ := k0; exact DataW.trod_lt m _ _ _ hm
  have k1 := h1
  have lt1 : ∀ x ∈ p1, x.block < W.heap.size := by obtain ⟨m, hm⟩ := k1; exact DataW.trod_lt m _ _ _ hm
  have k2 := h2
  have lt2 : ∀ x ∈ p2, x.block < W.heap.size := by obtain ⟨m, hm⟩ := k2; exact DataW.trod_lt m _ _ _ hm
  obtain ⟨f0, hf0⟩ := h0
  obtain ⟨c, ⟨ok1, ok2, ok3⟩, hc, _⟩ := op26.out hf0 (fun n hn => of_decide_eq_true (List.all_eq_true.1 hsz n (DataW.weights_mem_each (j := 0) (t := 26) (d := d0) rfl rfl n hn)))
  clear hA0 hval0 hsz0 hsz
  refine (am_run (vs := [.agg cs0, .int .i64 n1, .int .i64 n2]) ⟨_, Try.func3, by kernel_rfl, by kernel_rfl⟩ (c3 rfl false false c ok1 ok2 ok3 n1 n2 0) ⟨_, _, rfl, hc.1, _, _, rfl, rfl, _, _, rfl, rfl, rfl⟩).mono fun e W' ⟨he, bel⟩ => ?_
  subst he
  exact ⟨_, rfl, _, _, _, [], _, [], hW', trodAll_mk1 (shut_bool Try.underlying4 _), (trodAll_cons_mk (Below.trod laidOut (by kernel_rfl) (of_decide_eq_true (by kernel_rfl)) k0 bel lt0) (trodAll_cons_mk (Below.trod laidOut (by kernel_rfl) (of_decide_eq_true (by kernel_rfl)) k1 bel lt1) (trodAll_cons_mk (Below.trod laidOut (by kernel_rfl) (of_decide_eq_true (by kernel_rfl)) k2 bel lt2) trodAll_mk0))), rfl, bel.frame _, fun h => by cases h⟩
theorem over : Rows.bookNumbersRow.holds Try.pinned (OpenSpec.ofChange Rows.bookNumbersSpec) :=
  OpenClaim.holds_of_wide 3 Try.f3 rfl rfl rfl rfl rfl rfl rfl ⟨rfl, rfl, rfl, rfl, rfl⟩ rfl rfl rfl rfl rfl (by kernel_rfl) Try.func3 (by kernel_rfl)
    (of_decide_eq_true (by kernel_rfl)) (by unfold Func.isWrapper; first | (rw [if_pos (by decide +kernel)]; kernel_rfl) | (rw [if_neg (by decide +kernel)]; exact ⟨rfl, rfl⟩))
    (fun os started H enc _ => lifted os started H enc)
theorem proved : Rows.BookNumbersSaid := over
#print axioms proved
end Go.Proofs.Ytckkcgkgfkgfdaa.bookNumbers
namespace Go.Proofs.Ytckkcgkgfkgfdaa
/-- The row, under a short name, for the claim. -/
theorem bookNumbers_holds : Rows.BookNumbersSaid := bookNumbers.proved
end Go.Proofs.Ytckkcgkgfkgfdaa
