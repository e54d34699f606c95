/- Wire: a message as data. -/
import Derived.Test.YtgikjgekdeaneaaWireA
import Derived.Test.YtgikjgekdeaneaaWireF1
import Derived.Test.YtgikjgekdeaneaaOp
namespace Go.Proofs.Ytgikjgekdeaneaa.Wire
open Go.RowKit Go.Proofs.Ytgikjgekdeaneaa.QWire Go.Proofs.Ytgikjgekdeaneaa Go.Proofs.YtgikjgekdeaneaaW.PrintWords Go.Proofs.YtgikjgekdeaneaaW.PrintLast Go.Proofs.YtgikjgekdeaneaaW.PrintMore
set_option linter.unusedVariables false
/-- A message, as data, lies as its kind says. -/
def MOk (m : Msg) : Prop := (Lit.int .i64 m.k).wf = true ∧ ((Lit.int .i64 m.a).wf = true ∧ (Lit.int .i64 m.s).wf = true ∧ True ∧ (Lit.int .i64 m.p).wf = true ∧ (Lit.int .i64 m.q).wf = true ∧ (Lit.int .i64 m.n).wf = true ∧ (Lit.int .i64 m.t).wf = true) ∧ (Lit.int .i64 m.i).wf = true ∧ (Lit.int .i64 m.y).wf = true ∧ (Lit.int .i64 m.d).wf = true ∧ (Lit.int .i64 m.m).wf = true
theorem opens_T3 : Op.Opens Try.prog 3 (Kd.int .i64) (fun x => (Lit.int .i64 x).wf = true) :=
  Op.opens_int Try.underlying3
theorem opens_T2 : Op.Opens Try.prog 2 (Kd.int .i64) (fun x => (Lit.int .i64 x).wf = true) :=
  Op.opens_int Try.underlying2
theorem opens_T4 : Op.Opens Try.prog 4 Kd.bool (fun _ => True) :=
  Op.opens_bool Try.underlying4
theorem opens_T25 : Op.Opens Try.prog 25 kM MOk := by
  constructor
  intro H enc w spare held fuel cs x h
  obtain ⟨⟨k, ⟨a, s, b, p, q, n, t⟩, i, y, d, m⟩, hok, hK⟩ := (Op.opens_struct Try.underlying25 (by kernel_rfl) (Op.opensF_cons rfl (by kernel_rfl) opens_T3 (Op.opensF_cons rfl (by kernel_rfl) (Op.opens_struct Try.underlying23 (by kernel_rfl) (Op.opensF_cons rfl (by kernel_rfl) opens_T3 (Op.opensF_cons rfl (by kernel_rfl) opens_T3 (Op.opensF_cons rfl (by kernel_rfl) opens_T4 (Op.opensF_cons rfl (by kernel_rfl) opens_T2 (Op.opensF_cons rfl (by kernel_rfl) opens_T2 (Op.opensF_cons rfl (by kernel_rfl) opens_T2 (Op.opensF_one rfl (by kernel_rfl) opens_T2)))))))) (Op.opensF_cons rfl (by kernel_rfl) opens_T3 (Op.opensF_cons rfl (by kernel_rfl) opens_T2 (Op.opensF_cons rfl (by kernel_rfl) opens_T3 (Op.opensF_one rfl (by kernel_rfl) opens_T2))))))).out h
  obtain ⟨c0, c1, rfl, h0, c2, c3, rfl, ⟨e0, e1, rfl, h1, e2, e3, rfl, h2, e4, e5, rfl, h3, e6, e7, rfl, h4, e8, e9, rfl, h5, e10, e11, rfl, h6, h7⟩, c4, c5, rfl, h8, c6, c7, rfl, h9, c8, c9, rfl, h10, h11⟩ := hK
  refine ⟨⟨k, a, s, b, p, q, n, t, i, y, d, m⟩, hok, ?_⟩
  obtain rfl : c0 = [.int .i64 k] := h0
  obtain rfl : e0 = [.int .i64 a] := h1
  obtain rfl : e2 = [.int .i64 s] := h2
  obtain rfl : e4 = [.bool b] := h3
  obtain rfl : e6 = [.int .i64 p] := h4
  obtain rfl : e8 = [.int .i64 q] := h5
  obtain rfl : e10 = [.int .i64 n] := h6
  obtain rfl : e11 = [.int .i64 t] := h7
  obtain rfl : c4 = [.int .i64 i] := h8
  obtain rfl : c6 = [.int .i64 y] := h9
  obtain rfl : c8 = [.int .i64 d] := h10
  obtain rfl : c9 = [.int .i64 m] := h11
  rfl
theorem wf_i64 {x : Int} (h : (Lit.int .i64 x).wf = true) : I64 x := by
  unfold I64
  simp [Lit.wf, IntKind.min, IntKind.max, IntKind.bits, IntKind.signed] at h
  omega
theorem MOk.m64 {m : Msg} (h : MOk m) : M64 m := ⟨wf_i64 h.2.1.2.2.2.1, wf_i64 h.2.1.2.2.2.2.1, wf_i64 h.2.1.2.2.2.2.2.1, wf_i64 h.2.1.2.2.2.2.2.2, wf_i64 h.2.2.2.1, wf_i64 h.2.2.2.2.2⟩
end Go.Proofs.Ytgikjgekdeaneaa.Wire
