/- Wire: All by hand. -/
import Derived.Test.YtgikjgekdeaneaaWireR
namespace Go.Proofs.Ytgikjgekdeaneaa.Wire
open Go.RowKit Go.Proofs.Ytgikjgekdeaneaa.QWire Go.Proofs.YtgikjgekdeaneaaW.PrintWords Go.Proofs.YtgikjgekdeaneaaW.PrintLast Go.Proofs.YtgikjgekdeaneaaW.PrintMore Go.Proofs.Ytgikjgekdeaneaa.Own
set_option linter.unusedVariables false
set_option linter.unusedSimpArgs false
/-- A message's cells, as a list. -/
def Msg.l (m : Msg) : List Value := [.int .i64 m.k, .int .i64 m.a, .int .i64 m.s, .bool m.b, .int .i64 m.p, .int .i64 m.q, .int .i64 m.n, .int .i64 m.t, .int .i64 m.i, .int .i64 m.y, .int .i64 m.d, .int .i64 m.m]
/-- The kind of a message. -/
def kM : Kd Msg where
  sz := 12
  E := []
  K := fun _ m cs => cs = m.l
  M := fun _ _ _ m cs => cs = m.l
  K_len := fun h => by rw [h]; rfl
  K_one := fun h u hu => by
    rw [h] at hu
    simp only [Msg.l, List.mem_cons, List.not_mem_nil, or_false] at hu
    rcases hu with rfl | rfl | rfl | rfl | rfl | rfl | rfl | rfl | rfl | rfl | rfl | rfl <;> rfl
  K_below := fun _ h => h
  K_of_M := fun h => h
  M_mono := fun _ h => h
  M_bound := fun h => h
  M_move := fun _ h => h
  M_lower := fun _ h => h
/-- All messages of bytes; whether none is left. -/
def allF : Nat → List Int → List Msg × Bool
  | 0, _ => ([], true)
  | n + 1, l => if l.length = 0 then ([], true) else match dec l with
    | none => ([], false)
    | some (m, r) => (m :: (allF n r).1, (allF n r).2)
theorem allF_more (n : Nat) : ∀ (l : List Int), l.length ≤ n → ∀ k, n ≤ k → allF k l = allF n l := by
  induction n with
  | zero =>
    intro l hl k hk
    have h0 : l.length = 0 := by omega
    cases k with
    | zero => rfl
    | succ k => unfold allF; rw [if_pos h0]
  | succ n ih =>
    intro l hl k hk
    obtain ⟨k, rfl⟩ : ∃ q, k = q + 1 := ⟨k - 1, by omega⟩
    unfold allF
    by_cases h0 : l.length = 0
    · rw [if_pos h0, if_pos h0]
    · rw [if_neg h0, if_neg h0]
      cases hd : dec l with
      | none => rfl
      | some p =>
        obtain ⟨m, r⟩ := p
        have hr := dec_len l m r hd
        simp only
        rw [ih r (by omega) k (by omega)]
def allM (l : List Int) : List Msg × Bool := allF l.length l
theorem allM_nil (l : List Int) (h : l.length = 0) : allM l = ([], true) := by unfold allM; rw [h]; rfl
theorem allM_none (l : List Int) (h : l.length ≠ 0) (hd : dec l = none) : allM l = ([], false) := by
  unfold allM
  obtain ⟨k, hk⟩ : ∃ k, l.length = k + 1 := ⟨l.length - 1, by omega⟩
  rw [hk]; unfold allF; rw [if_neg h, hd]
theorem allM_some (l : List Int) (m : Msg) (r : List Int) (h : l.length ≠ 0) (hd : dec l = some (m, r)) : allM l = (m :: (allM r).1, (allM r).2) := by
  have hr := dec_len l m r hd
  obtain ⟨k, hk⟩ : ∃ k, l.length = k + 1 := ⟨l.length - 1, by omega⟩
  rw [show allM l = allF (k + 1) l by unfold allM; rw [hk], allF, if_neg h, hd]
  simp only
  rw [show allF k r = allM r from allF_more r.length r (Nat.le_refl _) k (by omega)]
theorem info30 : (Try.prog.info? 30).map (fun i => (i.zero, i.size, i.bytes)) = some (some (.agg #[.int .i64 0, .int .i64 0, .int .i64 0, .bool false, .int .i64 0, .int .i64 0, .int .i64 0, .int .i64 0, .int .i64 0, .int .i64 0, .int .i64 0, .int .i64 0]), 12, 96) := by kernel_rfl
theorem info25 : (Try.prog.info? 25).map (fun i => (i.zero, i.size, i.bytes)) = some (some (.agg #[.int .i64 0, .int .i64 0, .int .i64 0, .bool false, .int .i64 0, .int .i64 0, .int .i64 0, .int .i64 0, .int .i64 0, .int .i64 0, .int .i64 0, .int .i64 0]), 12, 96) := by kernel_rfl
/-- What All answers. -/
structure AllD (f : Bool → Value) (p : List Msg × Bool) (e : Ending) (w' : World) : Prop where
  out : ∃ A c, e = .returned (.tuple #[.slice A p.1.length c, f p.2]) ∧ p.1.length ≤ c ∧ Kd.C kM w' A p.1.length p.1
def code (b : Bool) : Value := .int .i64 (if b then 0 else 1)
set_option maxHeartbeats 8000000 in
set_option maxRecDepth 100000 in
theorem all_ (A0 : Option Addr) (c0 : Nat) (l0 : List Int) (w : World) (hr : Kd.C (Kd.int .u8) w A0 l0.length l0) (hc : l0.length ≤ c0) (hB : Bytes l0) (hl : l0.length ≤ 1000000) :
  Calls Try.prog 37 #[.slice A0 l0.length c0] w fun e w' => AllD code (allM l0) e w' ∧ Below w.heap.size w w' := by
 have HR := Aside0.mk hr
 have HB0 := Aside0.mk hB
 clear hr hB
 go_enter Try.func37, Try.ntmps37
 go_wp2_with (fail)
 go_loopg [0, 4] (l0.length + 1) (fun kq v0 v4 w' => ∃ (A : Option Addr) (c : Nat) (l : List Int) (ms : List Msg), v0 = .slice A l.length c ∧ Aside0 (l.length + 1 ≤ kq ∧ l.length ≤ c ∧ ms.length + l.length ≤ l0.length) ∧ Aside0 (Bytes l) ∧ Aside0 ((allM l0).1 = ms ++ (allM l).1 ∧ (allM l0).2 = (allM l).2) ∧ Aside0 (Kd.C (Kd.int .u8) w' A l.length l) ∧ Aside0 (kM.R 30 w' w.heap.size (fun _ => True) v4 ms) ∧ Aside0 (Below w.heap.size w w'))
 case atStart => exact ⟨A0, c0, l0, [], rfl, ⟨by simp; omega⟩, HB0, ⟨rfl, rfl⟩, HR, ⟨Kd.R_nil _ _ _ _ _⟩, ⟨Below.refl _ _⟩⟩
 case round =>
  obtain ⟨A, c, l, ms, rfl, HM, HY, HA, HR1, HO, HB⟩ := hrel
  obtain ⟨hm1, hm2, hm3⟩ := HM.out
  by_cases h0 : l.length = 0
  · have q0 : decide (0 < (l.length : Int)) = false := decide_eq_false (by omega)
    have q1 : decide (0 < l.length) = false := decide_eq_false (by omega)
    have hn := allM_nil l h0
    have e1 := HA.out
    rw [hn] at e1
    simp only [List.append_nil] at e1
    have E1 := Aside0.mk e1
    obtain ⟨A3, c3, rfl, hc3, hC3⟩ := Kd.R_reads HO.out
    have HC3 := Aside0.mk hC3
    clear e1 hn hC3 h0
    go_wp2_with (fail)
    go_ret2
    refine ⟨⟨A3, c3, ?_, ?_, ?_⟩, HB.out⟩
    · rw [E1.out.1, E1.out.2]; rfl
    · rw [E1.out.1]; exact hc3
    · rw [E1.out.1]; exact HC3.out
  · have q0 : decide (0 < (l.length : Int)) = true := decide_eq_true (by omega)
    have q1 : decide (0 < l.length) = true := decide_eq_true (by omega)
    have hH0 := Aside0.mk h0
    clear h0
    go_wp2_with (fail)
    refine (decode_ A c l _ HR1.out hm2 HY.out (by omega)).mono ?_
    rintro e w1 ⟨hd, hb⟩
    cases hdec : dec l with
    | none =>
      have he := hd.no hdec
      subst he
      have e1 := HA.out
      rw [allM_none l hH0.out hdec] at e1
      simp only [List.append_nil] at e1
      have E1 := Aside0.mk e1
      obtain ⟨A3, c3, rfl, hc3, hC3⟩ := Kd.R_reads HO.out
      have HC3 := Aside0.mk (Kd.C_below hC3 hb)
      have HB1 := Aside0.mk (below_step HB.out hb)
      clear e1 hC3 hd hdec hb
      unfold zero Msg.v
      go_wp2_with (fail)
      go_ret2
      refine ⟨⟨A3, c3, ?_, ?_, ?_⟩, HB1.out.alloc (below_size HB1.out) _⟩
      · rw [E1.out.1, E1.out.2]; rfl
      · rw [E1.out.1]; exact hc3
      · rw [E1.out.1]; exact Kd.C_alloc HC3.out _
    | some p =>
      obtain ⟨m, r⟩ := p
      obtain ⟨A2, c2, he, hc2, hB2, hC2⟩ := hd.yes m r hdec
      subst he
      have hlen := dec_len l m r hdec
      have e1 := HA.out
      rw [allM_some l m r hH0.out hdec] at e1
      have E1 := Aside0.mk e1
      have HC2 := Aside0.mk (Kd.F_mono (Kd.F_bound hC2) (fun k hk => hk))
      have hown : ∀ k, u4.ownBlock = some k → k < wr.heap.size := fun k hk => by obtain ⟨inner, ho⟩ := Kd.R_own HO.out; exact own_lt ho k hk
      have HW := Aside0.mk hown
      have HO1 := Aside0.mk (Kd.R_below HO.out hb)
      have HB1 := Aside0.mk (below_step HB.out hb)
      clear e1 hd hdec hb hC2 hown
      unfold Msg.v
      go_wp2_with (at_builtin; refine Kd.R_append kM (w0 := w) w.heap.size rfl (.tmp 21) (.tmp 23) 67 30 (.agg #[.int .i64 0, .int .i64 0, .int .i64 0, .bool false, .int .i64 0, .int .i64 0, .int .i64 0, .int .i64 0, .int .i64 0, .int .i64 0, .int .i64 0, .int .i64 0]) 96 rfl Try.underlying67 info30 rfl (by decide) (by omega) u4 ms m [.int .i64 m.k, .int .i64 m.a, .int .i64 m.s, .bool m.b, .int .i64 m.p, .int .i64 m.q, .int .i64 m.n, .int .i64 m.t, .int .i64 m.i, .int .i64 m.y, .int .i64 m.d, .int .i64 m.m] (fun _ => True) (fun _ => False) rfl (by first | (go_simp; done) | (go_simp; rfl)) ?aP (fun _ hk => hk.elim) ?aF ?aO ?aB ?aS ?aL ?_; (case aP => exact rfl); (case aF => exact fun _ _ => trivial); (case aO => exact Kd.R_alloc HO1.out _); (case aB => exact HB1.out.alloc (below_size HB1.out) _); (case aS => exact below_size (HB1.out.alloc (below_size HB1.out) _)); (case aL => omega); intro v1 w2 ho hb hg hat; have HO2 := Aside0.mk ho; have HB2 := Aside0.mk hb; have HC3 := Aside0.mk (Kd.F_now (Kd.F_grown (Kd.F_alloc HC2.out _) hg (fun k hk e => by have h1 := HW.out k e.symm; have h2 : wr.heap.size ≤ k := hk.1; omega))); clear ho hb hg hat)
      go_roundg (r.length + 1)
      case measure => omega
      case rel => exact ⟨A2, c2, r, ms ++ [m], rfl, ⟨by simp; omega⟩, ⟨hB2⟩, ⟨by rw [E1.out.1]; simp, E1.out.2⟩, HC3, HO2, HB2⟩
end Go.Proofs.Ytgikjgekdeaneaa.Wire
