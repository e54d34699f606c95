/- Wire: the reference's Right by hand. -/
import Derived.Test.YtgikjgekdeaneaaWireE
import Derived.Test.YtgikjgekdeaneaaWireX
import Derived.Test.YtgikjgekdeaneaaQWirez
import Derived.Test.YtgikjgekdeaneaaSeqI
namespace Go.Proofs.Ytgikjgekdeaneaa.Wire
open Go.RowKit Go.Proofs.Ytgikjgekdeaneaa.Cert Go.Proofs.Ytgikjgekdeaneaa.Seq Go.Proofs.Ytgikjgekdeaneaa.QWire Go.Proofs.YtgikjgekdeaneaaW.PrintWords Go.Proofs.YtgikjgekdeaneaaW.PrintLast Go.Proofs.YtgikjgekdeaneaaW.PrintMore Go.Proofs.Ytgikjgekdeaneaa.Own
set_option linter.unusedVariables false
set_option linter.unusedSimpArgs false
attribute [local go_sem] sl_t sl_f
attribute [local go_sem high] eqA25
/-- The answer of Right. -/
def RR (m : Msg) (e : Ending) : Prop := ∃ r : Bool, e = .returned (.bool r) ∧ (r = true ↔ Right m)
theorem right_iff (m : Msg) : (0 ≤ m.k ∧ m.k ≤ 6 ∧ ((bareM m).k = m.k ∧ ((bareM m).a = m.a ∧ (bareM m).s = m.s ∧ (bareM m).b = m.b ∧ (bareM m).p = m.p ∧ (bareM m).q = m.q ∧ (bareM m).n = m.n ∧ (bareM m).t = m.t) ∧ (bareM m).i = m.i ∧ (bareM m).y = m.y ∧ (bareM m).d = m.d ∧ (bareM m).m = m.m) ∧ (0 ≤ m.a ∧ m.a ≤ 65535) ∧ (0 ≤ m.s ∧ m.s ≤ 65535) ∧ (0 ≤ m.d ∧ m.d ≤ 65535) ∧ 0 ≤ m.i ∧ m.i ≤ 4294967295 ∧ 0 ≤ m.p ∧ 0 ≤ m.q ∧ 0 ≤ m.n ∧ 0 ≤ m.t ∧ 0 ≤ m.y ∧ 0 ≤ m.m) ↔ Right m := by
  unfold Right
  constructor
  · rintro ⟨h1, h2, ⟨e1, ⟨e2, e3, e4, e5, e6, e7, e8⟩, e9, e10, e11, e12⟩, h4, h5, h6, h7, h8, h9, h10, h11, h12, h13, h14⟩
    exact ⟨⟨h1, h2⟩, msg_ext _ _ ⟨e1, e2, e3, e4, e5, e6, e7, e8, e9, e10, e11, e12⟩, ⟨h9, h10, h11, h12, h13, h14⟩, ⟨h4.1, h5.1, h6.1, h7⟩, ⟨h4.2, h5.2, h6.2⟩, h8⟩
  · rintro ⟨⟨h1, h2⟩, h3, ⟨h9, h10, h11, h12, h13, h14⟩, ⟨h4, h5, h6, h7⟩, ⟨h4', h5', h6'⟩, h8⟩
    rw [h3]
    exact ⟨h1, h2, ⟨rfl, ⟨rfl, rfl, rfl, rfl, rfl, rfl, rfl⟩, rfl, rfl, rfl, rfl⟩, ⟨h4, h4'⟩, ⟨h5, h5'⟩, ⟨h6, h6'⟩, h7, h8, h9, h10, h11, h12, h13, h14⟩
set_option maxHeartbeats 8000000 in
set_option maxRecDepth 100000 in
theorem rright_ (m : Msg) (w : World) : Calls Try.prog 20 #[m.v] w fun e w' => RR m e ∧ Below w.heap.size w w' := by
 obtain ⟨q1, hq1⟩ : ∃ q : Bool, decide ((0 : Int) ≤ m.k) = q := ⟨_, rfl⟩
 have Q1 := Aside0.mk hq1
 clear hq1
 obtain ⟨q2, hq2⟩ : ∃ q : Bool, decide (m.k ≤ 6) = q := ⟨_, rfl⟩
 have Q2 := Aside0.mk hq2
 clear hq2
 obtain ⟨q3, hq3⟩ : ∃ q : Bool, ((bareM m).k == m.k && (((bareM m).a == m.a && ((bareM m).s == m.s && ((bareM m).b == m.b && ((bareM m).p == m.p && ((bareM m).q == m.q && ((bareM m).n == m.n && ((bareM m).t == m.t))))))) && ((bareM m).i == m.i && ((bareM m).y == m.y && ((bareM m).d == m.d && ((bareM m).m == m.m)))))) = q := ⟨_, rfl⟩
 have Q3 := Aside0.mk hq3
 clear hq3
 obtain ⟨q7, hq7⟩ : ∃ q : Bool, decide ((0 : Int) ≤ m.i) = q := ⟨_, rfl⟩
 have Q7 := Aside0.mk hq7
 clear hq7
 obtain ⟨q8, hq8⟩ : ∃ q : Bool, decide (m.i ≤ 4294967295) = q := ⟨_, rfl⟩
 have Q8 := Aside0.mk hq8
 clear hq8
 obtain ⟨q9, hq9⟩ : ∃ q : Bool, decide ((0 : Int) ≤ m.p) = q := ⟨_, rfl⟩
 have Q9 := Aside0.mk hq9
 clear hq9
 obtain ⟨q10, hq10⟩ : ∃ q : Bool, decide ((0 : Int) ≤ m.q) = q := ⟨_, rfl⟩
 have Q10 := Aside0.mk hq10
 clear hq10
 obtain ⟨q11, hq11⟩ : ∃ q : Bool, decide ((0 : Int) ≤ m.n) = q := ⟨_, rfl⟩
 have Q11 := Aside0.mk hq11
 clear hq11
 obtain ⟨q12, hq12⟩ : ∃ q : Bool, decide ((0 : Int) ≤ m.t) = q := ⟨_, rfl⟩
 have Q12 := Aside0.mk hq12
 clear hq12
 obtain ⟨q13, hq13⟩ : ∃ q : Bool, decide ((0 : Int) ≤ m.y) = q := ⟨_, rfl⟩
 have Q13 := Aside0.mk hq13
 clear hq13
 obtain ⟨q14, hq14⟩ : ∃ q : Bool, decide ((0 : Int) ≤ m.m) = q := ⟨_, rfl⟩
 have Q14 := Aside0.mk hq14
 clear hq14
 obtain ⟨q4, hq4⟩ : ∃ q : Bool, q = (decide (0 ≤ m.a) && decide (m.a ≤ 65535)) := ⟨_, rfl⟩
 have Q4 := Aside0.mk hq4
 clear hq4
 obtain ⟨q5, hq5⟩ : ∃ q : Bool, q = (decide (0 ≤ m.s) && decide (m.s ≤ 65535)) := ⟨_, rfl⟩
 have Q5 := Aside0.mk hq5
 clear hq5
 obtain ⟨q6, hq6⟩ : ∃ q : Bool, q = (decide (0 ≤ m.d) && decide (m.d ≤ 65535)) := ⟨_, rfl⟩
 have Q6 := Aside0.mk hq6
 clear hq6
 have F4 : stopgateref06_short.f m.a = some q4 := by rw [Q4.out]; unfold stopgateref06_short.f; by_cases h : (0 : Int) ≤ m.a <;> simp [h]
 have F5 : stopgateref06_short.f m.s = some q5 := by rw [Q5.out]; unfold stopgateref06_short.f; by_cases h : (0 : Int) ≤ m.s <;> simp [h]
 have F6 : stopgateref06_short.f m.d = some q6 := by rw [Q6.out]; unfold stopgateref06_short.f; by_cases h : (0 : Int) ≤ m.d <;> simp [h]
 obtain ⟨p1, hp1⟩ : ∃ p : Bool, p = q1 := ⟨_, rfl⟩
 have P1 := Aside0.mk hp1
 clear hp1
 obtain ⟨p2, hp2⟩ : ∃ p : Bool, p = (p1 && q2) := ⟨_, rfl⟩
 have P2 := Aside0.mk hp2
 clear hp2
 obtain ⟨p3, hp3⟩ : ∃ p : Bool, p = (p2 && q3) := ⟨_, rfl⟩
 have P3 := Aside0.mk hp3
 clear hp3
 obtain ⟨p4, hp4⟩ : ∃ p : Bool, p = (p3 && q4) := ⟨_, rfl⟩
 have P4 := Aside0.mk hp4
 clear hp4
 obtain ⟨p5, hp5⟩ : ∃ p : Bool, p = (p4 && q5) := ⟨_, rfl⟩
 have P5 := Aside0.mk hp5
 clear hp5
 obtain ⟨p6, hp6⟩ : ∃ p : Bool, p = (p5 && q6) := ⟨_, rfl⟩
 have P6 := Aside0.mk hp6
 clear hp6
 obtain ⟨p7, hp7⟩ : ∃ p : Bool, p = (p6 && q7) := ⟨_, rfl⟩
 have P7 := Aside0.mk hp7
 clear hp7
 obtain ⟨p8, hp8⟩ : ∃ p : Bool, p = (p7 && q8) := ⟨_, rfl⟩
 have P8 := Aside0.mk hp8
 clear hp8
 obtain ⟨p9, hp9⟩ : ∃ p : Bool, p = (p8 && q9) := ⟨_, rfl⟩
 have P9 := Aside0.mk hp9
 clear hp9
 obtain ⟨p10, hp10⟩ : ∃ p : Bool, p = (p9 && q10) := ⟨_, rfl⟩
 have P10 := Aside0.mk hp10
 clear hp10
 obtain ⟨p11, hp11⟩ : ∃ p : Bool, p = (p10 && q11) := ⟨_, rfl⟩
 have P11 := Aside0.mk hp11
 clear hp11
 obtain ⟨p12, hp12⟩ : ∃ p : Bool, p = (p11 && q12) := ⟨_, rfl⟩
 have P12 := Aside0.mk hp12
 clear hp12
 obtain ⟨p13, hp13⟩ : ∃ p : Bool, p = (p12 && q13) := ⟨_, rfl⟩
 have P13 := Aside0.mk hp13
 clear hp13
 obtain ⟨p14, hp14⟩ : ∃ p : Bool, p = (p13 && q14) := ⟨_, rfl⟩
 have P14 := Aside0.mk hp14
 clear hp14
 go_enter Try.func20, Try.ntmps20
 unfold Msg.v
 go_wp2_with (fail)
 have T : (fun w' => Aside0 (w'.heap[w.heap.size]? = some (.cells #[.int .i64 m.k, .int .i64 m.a, .int .i64 m.s, .bool m.b, .int .i64 m.p, .int .i64 m.q, .int .i64 m.n, .int .i64 m.t, .int .i64 m.i, .int .i64 m.y, .int .i64 m.d, .int .i64 m.m] 25)) ∧ Aside0 (w'.heap[w.heap.size + 1]? = some (.cells #[.int .i64 m.a, .int .i64 m.s, .bool m.b, .int .i64 m.p, .int .i64 m.q, .int .i64 m.n, .int .i64 m.t] 23)) ∧ Aside0 (Below w.heap.size w w')) (World.drew ((w.alloc (.cells #[.int .i64 m.k, .int .i64 m.a, .int .i64 m.s, .bool m.b, .int .i64 m.p, .int .i64 m.q, .int .i64 m.n, .int .i64 m.t, .int .i64 m.i, .int .i64 m.y, .int .i64 m.d, .int .i64 m.m] 25)).alloc (.cells #[.int .i64 m.a, .int .i64 m.s, .bool m.b, .int .i64 m.p, .int .i64 m.q, .int .i64 m.n, .int .i64 m.t] 23))) := ⟨⟨blk_drew (blk_alloc (new_at w _ _ rfl) _)⟩, ⟨blk_drew (new_at _ _ _ (size_alloc _ _).symm)⟩, ⟨(((Below.refl _ _).alloc (Nat.le_refl _) _).alloc (by simp) _).drew⟩⟩
 refine wp_region_seq (fun w' => Aside0 (w'.heap[w.heap.size]? = some (.cells #[.int .i64 m.k, .int .i64 m.a, .int .i64 m.s, .bool m.b, .int .i64 m.p, .int .i64 m.q, .int .i64 m.n, .int .i64 m.t, .int .i64 m.i, .int .i64 m.y, .int .i64 m.d, .int .i64 m.m] 25)) ∧ Aside0 (w'.heap[w.heap.size + 1]? = some (.cells #[.int .i64 m.a, .int .i64 m.s, .bool m.b, .int .i64 m.p, .int .i64 m.q, .int .i64 m.n, .int .i64 m.t] 23)) ∧ Aside0 (Below w.heap.size w w')) [10, 17, 22, 27] [0, 1, 2, 3, 4, 5, 6, 7, 8, 9, 11, 10, 12, 13, 14, 15, 16, 17, 18, 19, 20, 21, 22, 23, 24, 25, 26, 27, 28, 29, 30, 31, 32, 33, 34, 35, 36, 37, 38, 39, 40, 41, 42, 43, 44, 45, 46, 47, 48, 49, 50, 51, 52, 53, 54, 55, 56, 57, 58, 59, 60, 61, 62, 63, 64, 65, 66, 67, 68, 69] (by kernel_rfl) (by kernel_rfl) (by kernel_rfl) (by kernel_rfl) (by kernel_rfl) (fun _ _ d _ _ h => by cases d <;> exact h) ?h0 ?hseq
 case h0 => exact T
 case hseq =>
  refine seq_val (v := ?_) (a' := ?_) rfl ?_ ?_ ?_ ?_; rotate_left 2; (· rfl); (· intro w0 hS; go_simp; first | done | with_reducible rfl); (· go_simp; first | done | with_reducible rfl)
  refine seq_val (v := ?_) (a' := ?_) rfl ?_ ?_ ?_ ?_; rotate_left 2; (· rfl); (· intro w0 hS; obtain ⟨s0, s1, s2⟩ := hS; have x := (blk_cell s0.out 0).trans rfl; go_simp; first | done | with_reducible rfl); (· go_simp; first | done | with_reducible rfl)
  refine seq_val (v := .bool p1) (a' := ?_) rfl ?_ ?_ ?_ ?_; rotate_left 1; (· rfl); (· intro w0 hS; have hq := Q1.out; rw [P1.out]; go_simp; first | done | with_reducible rfl); (· go_simp; first | done | with_reducible rfl)
  refine seq_val (v := ?_) (a' := ?_) rfl ?_ ?_ ?_ ?_; rotate_left 2; (· rfl); (· intro w0 hS; go_simp; first | done | with_reducible rfl); (· go_simp; first | done | with_reducible rfl)
  refine seq_if (v := ?_) (a' := ?_) (p := p1) rfl ?_ ?_ ?_ ?_; rotate_left 2; (· cases p1 <;> rfl); (· intro hp w0 hS; subst hp; go_simp; first | done | with_reducible rfl); (· go_simp; first | done | with_reducible rfl)
  refine seq_if (v := ?_) (a' := ?_) (p := p1) rfl ?_ ?_ ?_ ?_; rotate_left 2; (· cases p1 <;> rfl); (· intro hp w0 hS; subst hp; obtain ⟨s0, s1, s2⟩ := hS; have x := (blk_cell s0.out 0).trans rfl; go_simp; first | done | with_reducible rfl); (· go_simp; first | done | with_reducible rfl)
  refine seq_if (v := ?_) (a' := ?_) (p := p1) rfl ?_ ?_ ?_ ?_; rotate_left 2; (· cases p1 <;> rfl); (· intro hp w0 hS; subst hp; have hq := Q2.out; go_simp; first | done | with_reducible rfl); (· go_simp; first | done | with_reducible rfl)
  refine seq_val (v := .bool p2) (a' := ?_) rfl ?_ ?_ ?_ ?_; rotate_left 1; (· rfl); (· intro w0 hS; rw [P2.out]; cases p1 <;> go_simp); (· go_simp; first | done | with_reducible rfl)
  refine seq_val (v := ?_) (a' := ?_) rfl ?_ ?_ ?_ ?_; rotate_left 2; (· rfl); (· intro w0 hS; go_simp; first | done | with_reducible rfl); (· go_simp; first | done | with_reducible rfl)
  refine seq_if (v := ?_) (a' := ?_) (p := p2) rfl ?_ ?_ ?_ ?_; rotate_left 2; (· cases p2 <;> rfl); (· intro hp w0 hS; subst hp; obtain ⟨s0, s1, s2⟩ := hS; have x0 := (blk_cell s0.out 0).trans rfl; have x1 := (blk_cell s0.out 1).trans rfl; have x2 := (blk_cell s0.out 2).trans rfl; have x3 := (blk_cell s0.out 3).trans rfl; have x4 := (blk_cell s0.out 4).trans rfl; have x5 := (blk_cell s0.out 5).trans rfl; have x6 := (blk_cell s0.out 6).trans rfl; have x7 := (blk_cell s0.out 7).trans rfl; have x8 := (blk_cell s0.out 8).trans rfl; have x9 := (blk_cell s0.out 9).trans rfl; have x10 := (blk_cell s0.out 10).trans rfl; have x11 := (blk_cell s0.out 11).trans rfl; go_simp; first | done | with_reducible rfl); (· go_simp; first | done | with_reducible rfl)
  refine seq_if (v := ?_) (a' := ?_) (p := p2) rfl ?_ ?_ ?_ ?_; rotate_left 2; (· cases p2 <;> rfl); (· intro hp w0 hS; subst hp; obtain ⟨s0, s1, s2⟩ := hS; have x0 := (blk_cell s0.out 0).trans rfl; have x1 := (blk_cell s0.out 1).trans rfl; have x2 := (blk_cell s0.out 2).trans rfl; have x3 := (blk_cell s0.out 3).trans rfl; have x4 := (blk_cell s0.out 4).trans rfl; have x5 := (blk_cell s0.out 5).trans rfl; have x6 := (blk_cell s0.out 6).trans rfl; have x7 := (blk_cell s0.out 7).trans rfl; have x8 := (blk_cell s0.out 8).trans rfl; have x9 := (blk_cell s0.out 9).trans rfl; have x10 := (blk_cell s0.out 10).trans rfl; have x11 := (blk_cell s0.out 11).trans rfl; go_simp; first | done | with_reducible rfl); (· go_simp; first | done | with_reducible rfl)
  refine seq_if_op (v := (bareM m).v) (a' := ?_) (p := p2) rfl (by kernel_rfl) ?_ T ?_ ?_ ?_; rotate_left 1; (· cases p2 <;> rfl); (· intro hp K hK; subst hp; go_simp; go_at_call 65; refine (rbare_ m _).mono ?_; rintro e u1 ⟨rfl, hb⟩; obtain ⟨s0, s1, s2⟩ := T; exact hK u1 ⟨⟨blk_below s0.out hb⟩, ⟨blk_below s1.out hb⟩, ⟨below_step s2.out hb⟩⟩); (· unfold Msg.v; go_simp; first | done | with_reducible rfl)
  clear T
  intro w1 T
  refine seq_if (v := ?_) (a' := ?_) (p := p2) rfl ?_ ?_ ?_ ?_; rotate_left 2; (· cases p2 <;> rfl); (· intro hp w0 hS; subst hp; have hq := Q3.out; go_simp; first | done | with_reducible rfl); (· go_simp; first | done | with_reducible rfl)
  refine seq_val (v := .bool p3) (a' := ?_) rfl ?_ ?_ ?_ ?_; rotate_left 1; (· rfl); (· intro w0 hS; rw [P3.out]; cases p2 <;> go_simp); (· go_simp; first | done | with_reducible rfl)
  refine seq_val (v := ?_) (a' := ?_) rfl ?_ ?_ ?_ ?_; rotate_left 2; (· rfl); (· intro w0 hS; go_simp; first | done | with_reducible rfl); (· go_simp; first | done | with_reducible rfl)
  refine seq_if (v := ?_) (a' := ?_) (p := p3) rfl ?_ ?_ ?_ ?_; rotate_left 2; (· cases p3 <;> rfl); (· intro hp w0 hS; subst hp; go_simp; first | done | with_reducible rfl); (· go_simp; first | done | with_reducible rfl)
  refine seq_if (v := ?_) (a' := ?_) (p := p3) rfl ?_ ?_ ?_ ?_; rotate_left 2; (· cases p3 <;> rfl); (· intro hp w0 hS; subst hp; obtain ⟨s0, s1, s2⟩ := hS; have x := (blk_cell s1.out 0).trans rfl; go_simp; first | done | with_reducible rfl); (· go_simp; first | done | with_reducible rfl)
  refine seq_if_op (v := .bool q4) (a' := ?_) (p := p3) rfl (by kernel_rfl) ?_ T ?_ ?_ ?_; rotate_left 1; (· cases p3 <;> rfl); (· intro hp K hK; subst hp; go_simp; go_at_call 66; refine (stopgateref06_short.calls m.a q4 _ F4).mono ?_; rintro e u1 ⟨rfl, hb⟩; obtain ⟨s0, s1, s2⟩ := T; obtain ⟨nd, rfl⟩ := hb.out; exact hK _ ⟨⟨s0.out⟩, ⟨s1.out⟩, ⟨pw_below_drewN s2.out _⟩⟩); (· go_simp; first | done | with_reducible rfl)
  clear T
  intro w2 T
  refine seq_val (v := .bool p4) (a' := ?_) rfl ?_ ?_ ?_ ?_; rotate_left 1; (· rfl); (· intro w0 hS; rw [P4.out]; cases p3 <;> go_simp); (· go_simp; first | done | with_reducible rfl)
  refine seq_val (v := ?_) (a' := ?_) rfl ?_ ?_ ?_ ?_; rotate_left 2; (· rfl); (· intro w0 hS; go_simp; first | done | with_reducible rfl); (· go_simp; first | done | with_reducible rfl)
  refine seq_if (v := ?_) (a' := ?_) (p := p4) rfl ?_ ?_ ?_ ?_; rotate_left 2; (· cases p4 <;> rfl); (· intro hp w0 hS; subst hp; go_simp; first | done | with_reducible rfl); (· go_simp; first | done | with_reducible rfl)
  refine seq_if (v := ?_) (a' := ?_) (p := p4) rfl ?_ ?_ ?_ ?_; rotate_left 2; (· cases p4 <;> rfl); (· intro hp w0 hS; subst hp; obtain ⟨s0, s1, s2⟩ := hS; have x := (blk_cell s1.out 1).trans rfl; go_simp; first | done | with_reducible rfl); (· go_simp; first | done | with_reducible rfl)
  refine seq_if_op (v := .bool q5) (a' := ?_) (p := p4) rfl (by kernel_rfl) ?_ T ?_ ?_ ?_; rotate_left 1; (· cases p4 <;> rfl); (· intro hp K hK; subst hp; go_simp; go_at_call 66; refine (stopgateref06_short.calls m.s q5 _ F5).mono ?_; rintro e u1 ⟨rfl, hb⟩; obtain ⟨s0, s1, s2⟩ := T; obtain ⟨nd, rfl⟩ := hb.out; exact hK _ ⟨⟨s0.out⟩, ⟨s1.out⟩, ⟨pw_below_drewN s2.out _⟩⟩); (· go_simp; first | done | with_reducible rfl)
  clear T
  intro w3 T
  refine seq_val (v := .bool p5) (a' := ?_) rfl ?_ ?_ ?_ ?_; rotate_left 1; (· rfl); (· intro w0 hS; rw [P5.out]; cases p4 <;> go_simp); (· go_simp; first | done | with_reducible rfl)
  refine seq_val (v := ?_) (a' := ?_) rfl ?_ ?_ ?_ ?_; rotate_left 2; (· rfl); (· intro w0 hS; go_simp; first | done | with_reducible rfl); (· go_simp; first | done | with_reducible rfl)
  refine seq_if (v := ?_) (a' := ?_) (p := p5) rfl ?_ ?_ ?_ ?_; rotate_left 2; (· cases p5 <;> rfl); (· intro hp w0 hS; subst hp; go_simp; first | done | with_reducible rfl); (· go_simp; first | done | with_reducible rfl)
  refine seq_if (v := ?_) (a' := ?_) (p := p5) rfl ?_ ?_ ?_ ?_; rotate_left 2; (· cases p5 <;> rfl); (· intro hp w0 hS; subst hp; obtain ⟨s0, s1, s2⟩ := hS; have x := (blk_cell s0.out 10).trans rfl; go_simp; first | done | with_reducible rfl); (· go_simp; first | done | with_reducible rfl)
  refine seq_if_op (v := .bool q6) (a' := ?_) (p := p5) rfl (by kernel_rfl) ?_ T ?_ ?_ ?_; rotate_left 1; (· cases p5 <;> rfl); (· intro hp K hK; subst hp; go_simp; go_at_call 66; refine (stopgateref06_short.calls m.d q6 _ F6).mono ?_; rintro e u1 ⟨rfl, hb⟩; obtain ⟨s0, s1, s2⟩ := T; obtain ⟨nd, rfl⟩ := hb.out; exact hK _ ⟨⟨s0.out⟩, ⟨s1.out⟩, ⟨pw_below_drewN s2.out _⟩⟩); (· go_simp; first | done | with_reducible rfl)
  clear T
  intro w4 T
  refine seq_val (v := .bool p6) (a' := ?_) rfl ?_ ?_ ?_ ?_; rotate_left 1; (· rfl); (· intro w0 hS; rw [P6.out]; cases p5 <;> go_simp); (· go_simp; first | done | with_reducible rfl)
  refine seq_val (v := ?_) (a' := ?_) rfl ?_ ?_ ?_ ?_; rotate_left 2; (· rfl); (· intro w0 hS; go_simp; first | done | with_reducible rfl); (· go_simp; first | done | with_reducible rfl)
  refine seq_if (v := ?_) (a' := ?_) (p := p6) rfl ?_ ?_ ?_ ?_; rotate_left 2; (· cases p6 <;> rfl); (· intro hp w0 hS; subst hp; go_simp; first | done | with_reducible rfl); (· go_simp; first | done | with_reducible rfl)
  refine seq_if (v := ?_) (a' := ?_) (p := p6) rfl ?_ ?_ ?_ ?_; rotate_left 2; (· cases p6 <;> rfl); (· intro hp w0 hS; subst hp; obtain ⟨s0, s1, s2⟩ := hS; have x := (blk_cell s0.out 8).trans rfl; go_simp; first | done | with_reducible rfl); (· go_simp; first | done | with_reducible rfl)
  refine seq_if (v := ?_) (a' := ?_) (p := p6) rfl ?_ ?_ ?_ ?_; rotate_left 2; (· cases p6 <;> rfl); (· intro hp w0 hS; subst hp; have hq := Q7.out; go_simp; first | done | with_reducible rfl); (· go_simp; first | done | with_reducible rfl)
  refine seq_val (v := .bool p7) (a' := ?_) rfl ?_ ?_ ?_ ?_; rotate_left 1; (· rfl); (· intro w0 hS; rw [P7.out]; cases p6 <;> go_simp); (· go_simp; first | done | with_reducible rfl)
  refine seq_val (v := ?_) (a' := ?_) rfl ?_ ?_ ?_ ?_; rotate_left 2; (· rfl); (· intro w0 hS; go_simp; first | done | with_reducible rfl); (· go_simp; first | done | with_reducible rfl)
  refine seq_if (v := ?_) (a' := ?_) (p := p7) rfl ?_ ?_ ?_ ?_; rotate_left 2; (· cases p7 <;> rfl); (· intro hp w0 hS; subst hp; go_simp; first | done | with_reducible rfl); (· go_simp; first | done | with_reducible rfl)
  refine seq_if (v := ?_) (a' := ?_) (p := p7) rfl ?_ ?_ ?_ ?_; rotate_left 2; (· cases p7 <;> rfl); (· intro hp w0 hS; subst hp; obtain ⟨s0, s1, s2⟩ := hS; have x := (blk_cell s0.out 8).trans rfl; go_simp; first | done | with_reducible rfl); (· go_simp; first | done | with_reducible rfl)
  refine seq_if (v := ?_) (a' := ?_) (p := p7) rfl ?_ ?_ ?_ ?_; rotate_left 2; (· cases p7 <;> rfl); (· intro hp w0 hS; subst hp; have hq := Q8.out; go_simp; first | done | with_reducible rfl); (· go_simp; first | done | with_reducible rfl)
  refine seq_val (v := .bool p8) (a' := ?_) rfl ?_ ?_ ?_ ?_; rotate_left 1; (· rfl); (· intro w0 hS; rw [P8.out]; cases p7 <;> go_simp); (· go_simp; first | done | with_reducible rfl)
  refine seq_val (v := ?_) (a' := ?_) rfl ?_ ?_ ?_ ?_; rotate_left 2; (· rfl); (· intro w0 hS; go_simp; first | done | with_reducible rfl); (· go_simp; first | done | with_reducible rfl)
  refine seq_if (v := ?_) (a' := ?_) (p := p8) rfl ?_ ?_ ?_ ?_; rotate_left 2; (· cases p8 <;> rfl); (· intro hp w0 hS; subst hp; go_simp; first | done | with_reducible rfl); (· go_simp; first | done | with_reducible rfl)
  refine seq_if (v := ?_) (a' := ?_) (p := p8) rfl ?_ ?_ ?_ ?_; rotate_left 2; (· cases p8 <;> rfl); (· intro hp w0 hS; subst hp; obtain ⟨s0, s1, s2⟩ := hS; have x := (blk_cell s1.out 3).trans rfl; go_simp; first | done | with_reducible rfl); (· go_simp; first | done | with_reducible rfl)
  refine seq_if (v := ?_) (a' := ?_) (p := p8) rfl ?_ ?_ ?_ ?_; rotate_left 2; (· cases p8 <;> rfl); (· intro hp w0 hS; subst hp; have hq := Q9.out; go_simp; first | done | with_reducible rfl); (· go_simp; first | done | with_reducible rfl)
  refine seq_val (v := .bool p9) (a' := ?_) rfl ?_ ?_ ?_ ?_; rotate_left 1; (· rfl); (· intro w0 hS; rw [P9.out]; cases p8 <;> go_simp); (· go_simp; first | done | with_reducible rfl)
  refine seq_val (v := ?_) (a' := ?_) rfl ?_ ?_ ?_ ?_; rotate_left 2; (· rfl); (· intro w0 hS; go_simp; first | done | with_reducible rfl); (· go_simp; first | done | with_reducible rfl)
  refine seq_if (v := ?_) (a' := ?_) (p := p9) rfl ?_ ?_ ?_ ?_; rotate_left 2; (· cases p9 <;> rfl); (· intro hp w0 hS; subst hp; go_simp; first | done | with_reducible rfl); (· go_simp; first | done | with_reducible rfl)
  refine seq_if (v := ?_) (a' := ?_) (p := p9) rfl ?_ ?_ ?_ ?_; rotate_left 2; (· cases p9 <;> rfl); (· intro hp w0 hS; subst hp; obtain ⟨s0, s1, s2⟩ := hS; have x := (blk_cell s1.out 4).trans rfl; go_simp; first | done | with_reducible rfl); (· go_simp; first | done | with_reducible rfl)
  refine seq_if (v := ?_) (a' := ?_) (p := p9) rfl ?_ ?_ ?_ ?_; rotate_left 2; (· cases p9 <;> rfl); (· intro hp w0 hS; subst hp; have hq := Q10.out; go_simp; first | done | with_reducible rfl); (· go_simp; first | done | with_reducible rfl)
  refine seq_val (v := .bool p10) (a' := ?_) rfl ?_ ?_ ?_ ?_; rotate_left 1; (· rfl); (· intro w0 hS; rw [P10.out]; cases p9 <;> go_simp); (· go_simp; first | done | with_reducible rfl)
  refine seq_val (v := ?_) (a' := ?_) rfl ?_ ?_ ?_ ?_; rotate_left 2; (· rfl); (· intro w0 hS; go_simp; first | done | with_reducible rfl); (· go_simp; first | done | with_reducible rfl)
  refine seq_if (v := ?_) (a' := ?_) (p := p10) rfl ?_ ?_ ?_ ?_; rotate_left 2; (· cases p10 <;> rfl); (· intro hp w0 hS; subst hp; go_simp; first | done | with_reducible rfl); (· go_simp; first | done | with_reducible rfl)
  refine seq_if (v := ?_) (a' := ?_) (p := p10) rfl ?_ ?_ ?_ ?_; rotate_left 2; (· cases p10 <;> rfl); (· intro hp w0 hS; subst hp; obtain ⟨s0, s1, s2⟩ := hS; have x := (blk_cell s1.out 5).trans rfl; go_simp; first | done | with_reducible rfl); (· go_simp; first | done | with_reducible rfl)
  refine seq_if (v := ?_) (a' := ?_) (p := p10) rfl ?_ ?_ ?_ ?_; rotate_left 2; (· cases p10 <;> rfl); (· intro hp w0 hS; subst hp; have hq := Q11.out; go_simp; first | done | with_reducible rfl); (· go_simp; first | done | with_reducible rfl)
  refine seq_val (v := .bool p11) (a' := ?_) rfl ?_ ?_ ?_ ?_; rotate_left 1; (· rfl); (· intro w0 hS; rw [P11.out]; cases p10 <;> go_simp); (· go_simp; first | done | with_reducible rfl)
  refine seq_val (v := ?_) (a' := ?_) rfl ?_ ?_ ?_ ?_; rotate_left 2; (· rfl); (· intro w0 hS; go_simp; first | done | with_reducible rfl); (· go_simp; first | done | with_reducible rfl)
  refine seq_if (v := ?_) (a' := ?_) (p := p11) rfl ?_ ?_ ?_ ?_; rotate_left 2; (· cases p11 <;> rfl); (· intro hp w0 hS; subst hp; go_simp; first | done | with_reducible rfl); (· go_simp; first | done | with_reducible rfl)
  refine seq_if (v := ?_) (a' := ?_) (p := p11) rfl ?_ ?_ ?_ ?_; rotate_left 2; (· cases p11 <;> rfl); (· intro hp w0 hS; subst hp; obtain ⟨s0, s1, s2⟩ := hS; have x := (blk_cell s1.out 6).trans rfl; go_simp; first | done | with_reducible rfl); (· go_simp; first | done | with_reducible rfl)
  refine seq_if (v := ?_) (a' := ?_) (p := p11) rfl ?_ ?_ ?_ ?_; rotate_left 2; (· cases p11 <;> rfl); (· intro hp w0 hS; subst hp; have hq := Q12.out; go_simp; first | done | with_reducible rfl); (· go_simp; first | done | with_reducible rfl)
  refine seq_val (v := .bool p12) (a' := ?_) rfl ?_ ?_ ?_ ?_; rotate_left 1; (· rfl); (· intro w0 hS; rw [P12.out]; cases p11 <;> go_simp); (· go_simp; first | done | with_reducible rfl)
  refine seq_val (v := ?_) (a' := ?_) rfl ?_ ?_ ?_ ?_; rotate_left 2; (· rfl); (· intro w0 hS; go_simp; first | done | with_reducible rfl); (· go_simp; first | done | with_reducible rfl)
  refine seq_if (v := ?_) (a' := ?_) (p := p12) rfl ?_ ?_ ?_ ?_; rotate_left 2; (· cases p12 <;> rfl); (· intro hp w0 hS; subst hp; go_simp; first | done | with_reducible rfl); (· go_simp; first | done | with_reducible rfl)
  refine seq_if (v := ?_) (a' := ?_) (p := p12) rfl ?_ ?_ ?_ ?_; rotate_left 2; (· cases p12 <;> rfl); (· intro hp w0 hS; subst hp; obtain ⟨s0, s1, s2⟩ := hS; have x := (blk_cell s0.out 9).trans rfl; go_simp; first | done | with_reducible rfl); (· go_simp; first | done | with_reducible rfl)
  refine seq_if (v := ?_) (a' := ?_) (p := p12) rfl ?_ ?_ ?_ ?_; rotate_left 2; (· cases p12 <;> rfl); (· intro hp w0 hS; subst hp; have hq := Q13.out; go_simp; first | done | with_reducible rfl); (· go_simp; first | done | with_reducible rfl)
  refine seq_val (v := .bool p13) (a' := ?_) rfl ?_ ?_ ?_ ?_; rotate_left 1; (· rfl); (· intro w0 hS; rw [P13.out]; cases p12 <;> go_simp); (· go_simp; first | done | with_reducible rfl)
  refine seq_val (v := ?_) (a' := ?_) rfl ?_ ?_ ?_ ?_; rotate_left 2; (· rfl); (· intro w0 hS; go_simp; first | done | with_reducible rfl); (· go_simp; first | done | with_reducible rfl)
  refine seq_if (v := ?_) (a' := ?_) (p := p13) rfl ?_ ?_ ?_ ?_; rotate_left 2; (· cases p13 <;> rfl); (· intro hp w0 hS; subst hp; go_simp; first | done | with_reducible rfl); (· go_simp; first | done | with_reducible rfl)
  refine seq_if (v := ?_) (a' := ?_) (p := p13) rfl ?_ ?_ ?_ ?_; rotate_left 2; (· cases p13 <;> rfl); (· intro hp w0 hS; subst hp; obtain ⟨s0, s1, s2⟩ := hS; have x := (blk_cell s0.out 11).trans rfl; go_simp; first | done | with_reducible rfl); (· go_simp; first | done | with_reducible rfl)
  refine seq_if (v := ?_) (a' := ?_) (p := p13) rfl ?_ ?_ ?_ ?_; rotate_left 2; (· cases p13 <;> rfl); (· intro hp w0 hS; subst hp; have hq := Q14.out; go_simp; first | done | with_reducible rfl); (· go_simp; first | done | with_reducible rfl)
  refine seq_val (v := .bool p14) (a' := ?_) rfl ?_ ?_ ?_ ?_; rotate_left 1; (· rfl); (· intro w0 hS; rw [P14.out]; cases p13 <;> go_simp); (· go_simp; first | done | with_reducible rfl)
  refine seq_val (v := ?_) (a' := ?_) rfl ?_ ?_ ?_ ?_; rotate_left 2; (· rfl); (· intro w0 hS; go_simp; first | done | with_reducible rfl); (· go_simp; first | done | with_reducible rfl)
  refine seq_nil ?_
  go_wp2_with (fail)
  go_ret
  refine ⟨⟨p14, rfl, ?_⟩, T.2.2.out⟩
  have hq : (p14 = true) ↔ (q1 = true ∧ q2 = true ∧ q3 = true ∧ q4 = true ∧ q5 = true ∧ q6 = true ∧ q7 = true ∧ q8 = true ∧ q9 = true ∧ q10 = true ∧ q11 = true ∧ q12 = true ∧ q13 = true ∧ q14 = true) := by
   rw [P14.out, P13.out, P12.out, P11.out, P10.out, P9.out, P8.out, P7.out, P6.out, P5.out, P4.out, P3.out, P2.out, P1.out]
   simp only [Bool.and_eq_true, and_assoc]
  rw [hq, ← Q1.out, ← Q2.out, ← Q3.out, ← Q7.out, ← Q8.out, ← Q9.out, ← Q10.out, ← Q11.out, ← Q12.out, ← Q13.out, ← Q14.out]
  rw [Q4.out, Q5.out, Q6.out]
  simp only [Bool.and_eq_true, decide_eq_true_eq, beq_iff_eq]
  exact right_iff m
end Go.Proofs.Ytgikjgekdeaneaa.Wire
