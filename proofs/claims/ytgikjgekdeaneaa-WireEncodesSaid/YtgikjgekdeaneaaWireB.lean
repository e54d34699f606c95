/- Wire: the reference's All by hand. -/
import Derived.Test.YtgikjgekdeaneaaWireA
namespace Go.Proofs.Ytgikjgekdeaneaa.Wire
open Go.RowKit Go.Proofs.Ytgikjgekdeaneaa.QWire Go.Proofs.YtgikjgekdeaneaaW.PrintWords Go.Proofs.YtgikjgekdeaneaaW.PrintLast Go.Proofs.YtgikjgekdeaneaaW.PrintMore Go.Proofs.Ytgikjgekdeaneaa.Own
set_option linter.unusedVariables false
set_option linter.unusedSimpArgs false
theorem F_drop {w : World} {ok : Nat → Prop} {A : Option Addr} {l : List Int} {c s : Nat} (h : Kd.F (Kd.int .u8) w ok A l.length l) (hc : l.length ≤ c) (hs : s ≤ l.length) : Kd.F (Kd.int .u8) w ok (adv A c s) (l.drop s).length (l.drop s) := Foot.imp h (fun W' hW => C_drop hW hc hs)
theorem take_drop (s : Nat) (st : Option (List Int)) (l0 : List Int) (h0 : ∀ q, st = some q → ∃ j, q = l0.drop j) : ∀ q, (take s st).2 = some q → ∃ j, q = l0.drop j := by
  intro q h
  obtain ⟨l, h1, h2, h3⟩ := take_len s st q h
  obtain ⟨j, hj⟩ := h0 l h1
  exact ⟨j + s, by rw [h2, hj, List.drop_drop]⟩
theorem ord_drop (st : Option (List Int)) (l0 : List Int) (h0 : ∀ q, st = some q → ∃ j, q = l0.drop j) : ∀ q, (ord st).2 = some q → ∃ j, q = l0.drop j := by
  unfold ord
  simp only
  refine take_drop _ _ _ (take_drop _ _ _ (take_drop _ _ _ (take_drop _ _ _ ?_)))
  intro q h
  split at h
  · cases h
  · exact take_drop _ _ _ (take_drop _ _ _ (take_drop _ _ _ h0)) q h
theorem decM_drop (l r : List Int) (h : (decM l).2 = some r) : ∃ j, r = l.drop j := by
  have h0 : ∀ q, (take 1 (some l)).2 = some q → ∃ j, q = l.drop j := take_drop _ _ _ (fun q hq => ⟨0, by cases hq; rfl⟩)
  unfold decM at h
  simp only at h
  split at h
  · exact ord_drop _ _ h0 r h
  · split at h
    · exact take_drop _ _ _ h0 r h
    · split at h
      · exact take_drop _ _ _ (take_drop _ _ _ h0) r h
      · split at h
        · exact take_drop _ _ _ (take_drop _ _ _ h0) r h
        · exact h0 r h
theorem dec_drop (l : List Int) (m : Msg) (r : List Int) (h : dec l = some (m, r)) : r = l.drop (l.length - r.length) := by
  have hl := dec_len l m r h
  unfold dec at h
  split at h
  · cases h
  · rename_i q hq
    split at h
    · cases h
    · cases h
      obtain ⟨j, hj⟩ := decM_drop l _ hq
      have : r.length = l.length - j := by rw [hj, List.length_drop]
      by_cases hjl : j ≤ l.length
      · rw [show l.length - r.length = j by omega]; exact hj
      · rw [hj, List.length_drop, List.drop_eq_nil_of_le (by omega)]
        rw [List.drop_eq_nil_of_le (by omega)]
set_option maxHeartbeats 8000000 in
set_option maxRecDepth 100000 in
theorem rall_ (A0 : Option Addr) (c0 : Nat) (l0 : List Int) (w : World) (hr : Kd.C (Kd.int .u8) w A0 l0.length l0) (hc : l0.length ≤ c0) (hB : Bytes l0) (hl : l0.length ≤ 1000000) :
  Calls Try.prog 38 #[.slice A0 l0.length c0] w fun e w' => AllD Value.bool (allM l0) e w' ∧ Below w.heap.size w w' := by
 have HR := Aside0.mk hr
 have HB0 := Aside0.mk hB
 clear hr hB
 go_enter Try.func38, Try.ntmps38
 go_wp2_with (fail)
 go_loopg [0, 4] (l0.length + 1) (fun kq v0 v4 w' => ∃ (A : Option Addr) (c : Nat) (l : List Int) (ms : List Msg), v0 = .slice A l.length c ∧ Aside0 (l.length + 1 ≤ kq ∧ l.length ≤ c ∧ ms.length + l.length ≤ l0.length) ∧ Aside0 (Bytes l) ∧ Aside0 ((allM l0).1 = ms ++ (allM l).1 ∧ (allM l0).2 = (allM l).2) ∧ Aside0 (Kd.F (Kd.int .u8) w' (fun k => k < w.heap.size) A l.length l) ∧ Aside0 (kM.R 25 w' w.heap.size (fun _ => True) v4 ms) ∧ Aside0 (Below w.heap.size w w'))
 case atStart => exact ⟨A0, c0, l0, [], rfl, ⟨by simp; omega⟩, HB0, ⟨rfl, rfl⟩, ⟨C_u8_foot HR.out⟩, ⟨Kd.R_nil _ _ _ _ _⟩, ⟨Below.refl _ _⟩⟩
 case round =>
  obtain ⟨A, c, l, ms, rfl, HM, HY, HA, HR1, HO, HB⟩ := hrel
  obtain ⟨hm1, hm2, hm3⟩ := HM.out
  by_cases h0 : l.length = 0
  · have q0 : decide (0 < (l.length : Int)) = false := decide_eq_false (by omega)
    have q1 : decide (0 < l.length) = false := decide_eq_false (by omega)
    have hn := allM_nil l h0
    have e1 := HA.out
    rw [hn] at e1
    simp only [List.append_nil] at e1
    have E1 := Aside0.mk e1
    obtain ⟨A3, c3, rfl, hc3, hC3⟩ := Kd.R_reads HO.out
    have HC3 := Aside0.mk hC3
    clear e1 hn hC3 h0
    go_wp2_with (fail)
    go_ret2
    refine ⟨⟨A3, c3, ?_, ?_, ?_⟩, HB.out⟩
    · rw [E1.out.1, E1.out.2]; rfl
    · rw [E1.out.1]; exact hc3
    · rw [E1.out.1]; exact HC3.out
  · have q0 : decide (0 < (l.length : Int)) = true := decide_eq_true (by omega)
    have q1 : decide (0 < l.length) = true := decide_eq_true (by omega)
    have hH0 := Aside0.mk h0
    clear h0
    go_wp2_with (fail)
    refine (rdecode_ A c l _ (Kd.F_now HR1.out) hm2 HY.out).mono ?_
    rintro e w1 ⟨hd, hb⟩
    cases hdec : dec l with
    | none =>
      have he := hd.no hdec
      subst he
      have e1 := HA.out
      rw [allM_none l hH0.out hdec] at e1
      simp only [List.append_nil] at e1
      have E1 := Aside0.mk e1
      obtain ⟨A3, c3, rfl, hc3, hC3⟩ := Kd.R_reads HO.out
      have HC3 := Aside0.mk (Kd.C_below hC3 hb)
      have HB1 := Aside0.mk (below_step HB.out hb)
      clear e1 hC3 hd hdec hb
      unfold zero Msg.v
      go_wp2_with (fail)
      go_ret2
      refine ⟨⟨A3, c3, ?_, ?_, ?_⟩, HB1.out.alloc (below_size HB1.out) _⟩
      · rw [E1.out.1, E1.out.2]; rfl
      · rw [E1.out.1]; exact hc3
      · rw [E1.out.1]; exact Kd.C_alloc HC3.out _
    | some p =>
      obtain ⟨m, r⟩ := p
      have he := hd.yes m r hdec
      subst he
      have hlen := dec_len l m r hdec
      obtain ⟨n, hn⟩ : ∃ n : Nat, n = l.length - r.length := ⟨_, rfl⟩
      have hrd : r = l.drop n := by rw [hn]; exact dec_drop l m r hdec
      have hni : (l.length : Int) - (r.length : Int) = (n : Int) := by omega
      rw [hni]
      have e1 := HA.out
      rw [allM_some l m r hH0.out hdec] at e1
      have E1 := Aside0.mk e1
      have HRD := Aside0.mk hrd
      have HC2 := Aside0.mk (Kd.F_below HR1.out hb)
      have hown : ∀ k, u4.ownBlock = some k → w.heap.size ≤ k := fun k hk => by obtain ⟨inner, ho⟩ := Kd.R_own HO.out; exact own_base ho k hk
      have HW := Aside0.mk hown
      clear hown
      have HO1 := Aside0.mk (Kd.R_below HO.out hb)
      have HB1 := Aside0.mk (below_step HB.out hb)
      have hnd : n ≤ l.length := by omega
      have hn0 : ((n : Int) == 0) = false := beq_eq_false_iff_ne.mpr (by omega)
      have hnl := eq_true (show (n : Int) ≤ (l.length : Int) by omega)
      have HLR := Aside0.mk (show r.length + 1 ≤ l.length from hlen)
      have HNN := Aside0.mk hn
      clear e1 hd hdec hb hni hrd hlen hn
      unfold Msg.v
      by_cases hcn : c = n
      · go_wp2_with (at_builtin; refine Kd.R_append kM (w0 := w) w.heap.size rfl (.tmp 18) (.tmp 20) 70 25 (.agg #[.int .i64 0, .int .i64 0, .int .i64 0, .bool false, .int .i64 0, .int .i64 0, .int .i64 0, .int .i64 0, .int .i64 0, .int .i64 0, .int .i64 0, .int .i64 0]) 96 rfl Try.underlying70 info25 rfl (by decide) (by omega) u4 ms m [.int .i64 m.k, .int .i64 m.a, .int .i64 m.s, .bool m.b, .int .i64 m.p, .int .i64 m.q, .int .i64 m.n, .int .i64 m.t, .int .i64 m.i, .int .i64 m.y, .int .i64 m.d, .int .i64 m.m] (fun _ => True) (fun _ => False) rfl (by first | (go_simp; done) | (go_simp; rfl)) ?aP (fun _ hk => hk.elim) ?aF ?aO ?aB ?aS ?aL ?_; (case aP => exact rfl); (case aF => exact fun _ _ => trivial); (case aO => exact Kd.R_alloc HO1.out _); (case aB => exact HB1.out.alloc (below_size HB1.out) _); (case aS => exact below_size (HB1.out.alloc (below_size HB1.out) _)); (case aL => omega); intro v1 w2 ho hb hg hat; have HO2 := Aside0.mk ho; have HB2 := Aside0.mk hb; have HC3 := Aside0.mk (Kd.F_grown (Kd.F_alloc HC2.out _) hg (fun k hk e => by have h1 := HW.out k e.symm; have h2 : k < w.heap.size := hk; omega)); clear ho hb hg hat)
        go_roundg (r.length + 1)
        case measure => have := HLR.out; omega
        case rel => exact ⟨A, 0, r, ms ++ [m], by rw [HRD.out, List.length_drop], ⟨Nat.le_refl _, by have h1 := HLR.out; have h2 := HNN.out; omega, by have h1 := HLR.out; have h2 := HNN.out; rw [List.length_append, List.length_singleton]; omega⟩, ⟨by rw [HRD.out]; exact HY.out.drop n⟩, ⟨by rw [E1.out.1]; simp, E1.out.2⟩, ⟨by have h := F_drop (s := n) HC3.out hm2 hnd; unfold adv at h; rw [if_pos hcn] at h; rw [HRD.out]; exact h⟩, HO2, HB2⟩
      · have hnc := eq_true (show (n : Int) ≤ (c : Int) by omega)
        go_wp2_with (at_builtin; refine Kd.R_append kM (w0 := w) w.heap.size rfl (.tmp 18) (.tmp 20) 70 25 (.agg #[.int .i64 0, .int .i64 0, .int .i64 0, .bool false, .int .i64 0, .int .i64 0, .int .i64 0, .int .i64 0, .int .i64 0, .int .i64 0, .int .i64 0, .int .i64 0]) 96 rfl Try.underlying70 info25 rfl (by decide) (by omega) u4 ms m [.int .i64 m.k, .int .i64 m.a, .int .i64 m.s, .bool m.b, .int .i64 m.p, .int .i64 m.q, .int .i64 m.n, .int .i64 m.t, .int .i64 m.i, .int .i64 m.y, .int .i64 m.d, .int .i64 m.m] (fun _ => True) (fun _ => False) rfl (by first | (go_simp; done) | (go_simp; rfl)) ?aP (fun _ hk => hk.elim) ?aF ?aO ?aB ?aS ?aL ?_; (case aP => exact rfl); (case aF => exact fun _ _ => trivial); (case aO => exact Kd.R_alloc HO1.out _); (case aB => exact HB1.out.alloc (below_size HB1.out) _); (case aS => exact below_size (HB1.out.alloc (below_size HB1.out) _)); (case aL => omega); intro v1 w2 ho hb hg hat; have HO2 := Aside0.mk ho; have HB2 := Aside0.mk hb; have HC3 := Aside0.mk (Kd.F_grown (Kd.F_alloc HC2.out _) hg (fun k hk e => by have h1 := HW.out k e.symm; have h2 : k < w.heap.size := hk; omega)); clear ho hb hg hat)
        go_roundg (r.length + 1)
        case measure => have := HLR.out; omega
        case rel => exact ⟨_, c - n, r, ms ++ [m], by rw [HRD.out, List.length_drop], ⟨Nat.le_refl _, by have h1 := HLR.out; have h2 := HNN.out; omega, by have h1 := HLR.out; have h2 := HNN.out; rw [List.length_append, List.length_singleton]; omega⟩, ⟨by rw [HRD.out]; exact HY.out.drop n⟩, ⟨by rw [E1.out.1]; simp, E1.out.2⟩, ⟨by have h := F_drop (s := n) HC3.out hm2 hnd; unfold adv at h; rw [if_neg hcn] at h; rw [HRD.out]; exact h⟩, HO2, HB2⟩
end Go.Proofs.Ytgikjgekdeaneaa.Wire
