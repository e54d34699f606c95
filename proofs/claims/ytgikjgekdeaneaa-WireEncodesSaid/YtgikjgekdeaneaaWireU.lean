/- Wire: the reference's reader by hand, and both takers by one word. -/
import Derived.Test.YtgikjgekdeaneaaWireT
namespace Go.Proofs.Ytgikjgekdeaneaa.Wire
open Go.RowKit Go.Proofs.YtgikjgekdeaneaaW.PrintWords Go.Proofs.YtgikjgekdeaneaaW.PrintLast Go.Proofs.YtgikjgekdeaneaaW.PrintMore Go.Proofs.Ytgikjgekdeaneaa.Own
set_option linter.unusedVariables false
set_option linter.unusedSimpArgs false
variable {lo : Nat}
set_option maxRecDepth 100000 in
theorem pow7 (i : Nat) (h : i ≤ 7) : (256 : Int) ^ i ≤ 72057594037927936 := by
  have : (256 : Int) ^ i ≤ 256 ^ 7 := by exact_mod_cast Nat.pow_le_pow_right (by decide) h
  have h7 : (256 : Int) ^ 7 = 72057594037927936 := by decide
  omega
theorem val_small (l : List Int) (h : Bytes l) (s : Nat) (hs : s ≤ 7) : 0 ≤ val (l.take s) ∧ val (l.take s) < 72057594037927936 := by
  have hv := val_lo (l.take s) (h.take s)
  have := pow7 (l.take s).length (by rw [List.length_take]; omega)
  omega
theorem val_eight (l : List Int) (h : Bytes l) (hs : 8 ≤ l.length) : ∃ r, val (l.take 8) = rd l 0 * 72057594037927936 + r ∧ 0 ≤ r ∧ r < 72057594037927936 ∧ 0 ≤ rd l 0 ∧ rd l 0 < 256 := by
  cases l with
  | nil => simp at hs
  | cons c l =>
    have hr := val_lo (l.take 7) (fun x hx => h x (by simp [List.mem_of_mem_take hx]))
    have hl : (l.take 7).length = 7 := by rw [List.length_take]; simp at hs; omega
    rw [hl] at hr
    have h7 : (256 : Int) ^ 7 = 72057594037927936 := by decide
    rw [h7] at hr
    refine ⟨val (l.take 7), ?_, hr.1, hr.2, h c (by simp)⟩
    show val (c :: l.take 7) = _
    rw [val_cons, hl, h7]
    rfl
theorem wrap_take (l : List Int) (h : Bytes l) (s : Nat) (hs : s ≤ 8) (hl : s ≤ l.length) : (wrap64 (val (l.take s)) < 0 ↔ s = 8 ∧ 128 ≤ rd l 0) ∧ (0 ≤ wrap64 (val (l.take s)) → wrap64 (val (l.take s)) = val (l.take s)) := by
  by_cases h8 : s = 8
  · subst h8
    obtain ⟨r, hv, h1, h2, h3, h4⟩ := val_eight l h hl
    rw [hv]
    unfold wrap64
    omega
  · have := val_small l h s (by omega)
    unfold wrap64
    omega
theorem take_none (s : Nat) : take s none = (0, none) := rfl
theorem take_off (s : Nat) (l : List Int) (h : l.length < s ∨ (s = 8 ∧ 128 ≤ rd l 0)) : take s (some l) = (0, none) := if_pos h
theorem take_on (s : Nat) (l : List Int) (h : ¬ (l.length < s ∨ (s = 8 ∧ 128 ≤ rd l 0))) : take s (some l) = (val (l.take s), some (l.drop s)) := if_neg h
theorem add_0 (a : Addr) : a.add 0 = a := by simp [Addr.add]
/-- The program's. -/
theorem takeI {g : Nat} (s : Nat) (st : Option (List Int)) (w : World) (h : Tk 127 lo w g st) (h8 : s ≤ 8) :
  Calls Try.prog 62 #[.pointer (some ⟨g, 0, none⟩), .int .i64 (s : Int)] w fun e w' => e = .returned (.int .i64 (take s st).1) ∧ Tk 127 lo w' g (take s st).2 ∧ Ch (one g) w w' := by
  cases st with
  | none => exact take_bad s w h
  | some l =>
    by_cases hs : l.length < s
    · rw [take_off s l (.inl hs)]
      exact take_short s l w h hs
    · obtain ⟨A, c, hb, hn, hB, hF⟩ := h.good
      have hw := wrap_take l hB s h8 (by omega)
      refine (take_yes s l w h (by omega) h8).mono ?_
      rintro e w' ⟨rfl, he, hc⟩
      by_cases hb8 : s = 8 ∧ 128 ≤ rd l 0
      · rw [take_off s l (.inr hb8)]
        have := hw.1.mpr hb8
        exact ⟨by rw [Int.max_eq_right (by omega)], he.no this, hc⟩
      · rw [take_on s l (fun h => h.elim hs hb8)]
        have h0 : 0 ≤ wrap64 (val (l.take s)) := by have := mt hw.1.mp hb8; omega
        exact ⟨by rw [Int.max_eq_left h0, hw.2 h0], he.yes h0, hc⟩
set_option maxHeartbeats 8000000 in
set_option maxRecDepth 100000 in
theorem rtake_bad {g : Nat} (s : Nat) (w : World) (h : Tk 134 lo w g none) :
  Calls Try.prog 68 #[.pointer (some ⟨g, 0, none⟩), .int .i64 (s : Int)] w fun e w' => e = .returned (.int .i64 0) ∧ Tk 134 lo w' g none ∧ Ch (one g) w w' := by
 obtain ⟨A, n, c, hb, hn⟩ := h.bad
 have f0 := (blk_cell hb 0).trans rfl
 have f1 := (blk_cell hb 1).trans rfl
 have z1 := blk_frozen hb 1
 have HT := Aside0.mk hb
 clear hb h
 go_enter Try.func68, Try.ntmps68
 go_wp2
 go_ret
 exact ⟨rfl, Tk.mk_bad (blk_put HT.out 1 _ rfl) hn, (Ch.refl (one g) _).set (p := ⟨g, 1, none⟩) (fun _ => rfl) _⟩
set_option maxHeartbeats 8000000 in
set_option maxRecDepth 100000 in
theorem rtake_short {g : Nat} (s : Nat) (l : List Int) (w : World) (h : Tk 134 lo w g (some l)) (hs : l.length < s) :
  Calls Try.prog 68 #[.pointer (some ⟨g, 0, none⟩), .int .i64 (s : Int)] w fun e w' => e = .returned (.int .i64 0) ∧ Tk 134 lo w' g none ∧ Ch (one g) w w' := by
 obtain ⟨A, c, hb, hn, hB, hF⟩ := h.good
 have f0 := (blk_cell hb 0).trans rfl
 have f1 := (blk_cell hb 1).trans rfl
 have z1 := blk_frozen hb 1
 have HT := Aside0.mk hb
 have c0 := decide_eq_true hs
 clear hb h
 go_enter Try.func68, Try.ntmps68
 go_wp2
 go_ret
 exact ⟨rfl, Tk.mk_bad (blk_put HT.out 1 _ rfl) hn, (Ch.refl (one g) _).set (p := ⟨g, 1, none⟩) (fun _ => rfl) _⟩
set_option maxHeartbeats 8000000 in
set_option maxRecDepth 100000 in
theorem rtake_high {g : Nat} (l : List Int) (w : World) (h : Tk 134 lo w g (some l)) (hs : ¬ l.length < 8) (hh : 128 ≤ rd l 0) :
  Calls Try.prog 68 #[.pointer (some ⟨g, 0, none⟩), .int .i64 8] w fun e w' => e = .returned (.int .i64 0) ∧ Tk 134 lo w' g none ∧ Ch (one g) w w' := by
 obtain ⟨A, c, hb, hn, hB, hF⟩ := h.good
 have f0 := (blk_cell hb 0).trans rfl
 have f1 := (blk_cell hb 1).trans rfl
 have z1 := blk_frozen hb 1
 have HT := Aside0.mk hb
 have c0 : decide ((l.length : Int) < 8) = false := decide_eq_false (by omega)
 have c1 := decide_eq_true hh
 obtain ⟨ad, e1, hx⟩ := Kd.at_int (Kd.F_now hF) 0 (by omega) (by omega)
 cases e1
 rw [show ((0 : Int).toNat) = 0 from rfl, add_0] at hx
 have q0 := eq_true (show (0 : Int) < (l.length : Int) by omega)
 clear hb h hF
 go_enter Try.func68, Try.ntmps68
 go_wp2
 go_ret
 exact ⟨rfl, Tk.mk_bad (blk_put HT.out 1 _ rfl) hn, (Ch.refl (one g) _).set (p := ⟨g, 1, none⟩) (fun _ => rfl) _⟩
set_option maxHeartbeats 8000000 in
set_option maxRecDepth 100000 in
theorem rtake_yes {g : Nat} (s : Nat) (l : List Int) (w : World) (h : Tk 134 lo w g (some l)) (hs : s ≤ l.length) (h8 : s < 8) (h1 : 1 ≤ s) :
  Calls Try.prog 68 #[.pointer (some ⟨g, 0, none⟩), .int .i64 (s : Int)] w fun e w' => e = .returned (.int .i64 (val (l.take s))) ∧ Tk 134 lo w' g (some (l.drop s)) ∧ Ch (one g) w w' := by
 obtain ⟨A, c, hb, hn, hB, hF⟩ := h.good
 have f0 := (blk_cell hb 0).trans rfl
 have f1 := (blk_cell hb 1).trans rfl
 have z0 := blk_frozen hb 0
 have z1 := blk_frozen hb 1
 have HT := Aside0.mk hb
 have HF := Aside0.mk hF
 obtain ⟨ad, e1, hx⟩ := Kd.at_int (Kd.F_now hF) 0 (by omega) (by omega)
 cases e1
 rw [show ((0 : Int).toNat) = 0 from rfl, add_0] at hx
 have q0 := eq_true (show (0 : Int) < (l.length : Int) by omega)
 clear hb h hF
 have c1 : ((s : Int) == 8) = false := beq_eq_false_iff_ne.mpr (by omega)
 have c0 := decide_eq_false (show ¬ l.length < s by omega)
 go_enter Try.func68, Try.ntmps68
 go_wp2
 clear hx
 go_loop [5, 6] (fun v5 v6 => ∃ i : Nat, i ≤ s ∧ v5 = .int .i64 (val (l.take i)) ∧ v6 = .int .i64 (i : Int)) (fun _ v6 => s - (intOf v6).toNat)
 case atStart => exact ⟨0, Nat.zero_le _, by simp [val], rfl⟩
 case round =>
  obtain ⟨i, hi, rfl, rfl⟩ := hrel
  by_cases c3 : i < s
  · have c3b : decide ((i : Int) < (s : Int)) = true := decide_eq_true (by omega)
    have c3c := decide_eq_true c3
    obtain ⟨ad2, e1, hx⟩ := Kd.at_int (Kd.F_now HF.out) (i : Int) (by omega) (by omega)
    cases e1
    rw [Int.toNat_natCast] at hx
    have hv := val_small l hB i (by omega)
    have hb := hB.at_ i (by omega)
    have hsn := Aside0.mk (show val (l.take (i + 1)) = val (l.take i) * 256 + rd l (i : Int) by rw [take_snoc l i (by omega), val_snoc])
    have q1 := eq_true (show (i : Int) < (l.length : Int) by omega)
    have hhi : 256 * val (l.take i) + rd l (i : Int) ≤ 9223372036854775807 := by have h10 := val_lo (l.take i) (hB.take i); have h11 : (256 : Int) ^ (l.take i).length ≤ 256 ^ 6 := (by rw [List.length_take]; exact_mod_cast Nat.pow_le_pow_right (by decide) (show min i l.length ≤ 6 by omega)); have h12 : (256 : Int) ^ 6 = 281474976710656 := (by decide); omega
    have hlo := hv.1
    have hbl := hb.1
    have e1 : wrap64 ((i : Int) + 1) = (i : Int) + 1 := i64_in _ (by omega) (by omega)
    clear hv hb
    go_wp2
    go_round
    case rel => exact ⟨i + 1, by omega, by rw [hsn.out, Int.mul_comm], by go_num⟩
    case measure => simp [intOf]; omega
  · obtain rfl : i = s := by omega
    have c3b : decide (((i : Int)) < (i : Int)) = false := decide_eq_false (by omega)
    have q1 := eq_true (show (i : Int) ≤ (l.length : Int) by omega)
    have hF2 := HF.out.drop (s := i) hn hs
    have hD : (l.drop i).length = l.length - i := List.length_drop
    by_cases hc : c = i
    · go_wp2
      go_ret
      exact ⟨rfl, Tk.mk_good (A := some ad) (c := 0) (by rw [hD]; exact blk_put HT.out 0 _ rfl) (by omega) (hB.drop _) (by have := hF2; unfold adv at this; rw [if_pos hc] at this; exact this.set 0 _), (Ch.refl (one g) _).set (p := ⟨g, 0, none⟩) (fun _ => rfl) _⟩
    · have q2 := eq_true (show (i : Int) ≤ (c : Int) by omega)
      go_wp2
      go_ret
      exact ⟨rfl, Tk.mk_good (c := c - i) (by rw [hD]; exact blk_put HT.out 0 _ rfl) (by omega) (hB.drop _) (by have := hF2; unfold adv at this; rw [if_neg hc] at this; exact this.set 0 _), (Ch.refl (one g) _).set (p := ⟨g, 0, none⟩) (fun _ => rfl) _⟩
set_option maxHeartbeats 8000000 in
set_option maxRecDepth 100000 in
theorem rtake_yes8 {g : Nat} (l : List Int) (w : World) (h : Tk 134 lo w g (some l)) (hs : 8 ≤ l.length) (hh : ¬ 128 ≤ rd l 0) :
  Calls Try.prog 68 #[.pointer (some ⟨g, 0, none⟩), .int .i64 (8 : Int)] w fun e w' => e = .returned (.int .i64 (val (l.take 8))) ∧ Tk 134 lo w' g (some (l.drop 8)) ∧ Ch (one g) w w' := by
 obtain ⟨A, c, hb, hn, hB, hF⟩ := h.good
 have f0 := (blk_cell hb 0).trans rfl
 have f1 := (blk_cell hb 1).trans rfl
 have z0 := blk_frozen hb 0
 have z1 := blk_frozen hb 1
 have HT := Aside0.mk hb
 have HF := Aside0.mk hF
 obtain ⟨ad, e1, hx⟩ := Kd.at_int (Kd.F_now hF) 0 (by omega) (by omega)
 cases e1
 rw [show ((0 : Int).toNat) = 0 from rfl, add_0] at hx
 have q0 := eq_true (show (0 : Int) < (l.length : Int) by omega)
 clear hb h hF
 have c1 : decide (128 ≤ rd l 0) = false := decide_eq_false (by omega)
 have c2 : decide ((l.length : Int) < 8) = false := decide_eq_false (by omega)
 go_enter Try.func68, Try.ntmps68
 go_wp2
 clear hx
 go_loop [5, 6] (fun v5 v6 => ∃ i : Nat, i ≤ 8 ∧ v5 = .int .i64 (val (l.take i)) ∧ v6 = .int .i64 (i : Int)) (fun _ v6 => 8 - (intOf v6).toNat)
 case atStart => exact ⟨0, Nat.zero_le _, by simp [val], rfl⟩
 case round =>
  obtain ⟨i, hi, rfl, rfl⟩ := hrel
  by_cases c3 : i < 8
  · have c3b : decide ((i : Int) < (8 : Int)) = true := decide_eq_true (by omega)
    have c3c := decide_eq_true c3
    obtain ⟨ad2, e1, hx⟩ := Kd.at_int (Kd.F_now HF.out) (i : Int) (by omega) (by omega)
    cases e1
    rw [Int.toNat_natCast] at hx
    have hv := val_small l hB i (by omega)
    have hb := hB.at_ i (by omega)
    have hsn := Aside0.mk (show val (l.take (i + 1)) = val (l.take i) * 256 + rd l (i : Int) by rw [take_snoc l i (by omega), val_snoc])
    have q1 := eq_true (show (i : Int) < (l.length : Int) by omega)
    have hhi : 256 * val (l.take i) + rd l (i : Int) ≤ 9223372036854775807 := by by_cases i7 : i = 7; subst i7; obtain ⟨r, e, g1, g2, g3, g4⟩ := val_eight l hB hs; have h9b : val (l.take 8) = val (l.take 7) * 256 + rd l 7 := hsn.out; show 256 * val (l.take 7) + rd l 7 ≤ _; omega; have := pow7 i (by omega); have h10 := val_lo (l.take i) (hB.take i); have h11 : (256 : Int) ^ (l.take i).length ≤ 256 ^ 6 := (by rw [List.length_take]; exact_mod_cast Nat.pow_le_pow_right (by decide) (show min i l.length ≤ 6 by omega)); have h12 : (256 : Int) ^ 6 = 281474976710656 := (by decide); omega
    have hlo := hv.1
    have hbl := hb.1
    have e1 : wrap64 ((i : Int) + 1) = (i : Int) + 1 := i64_in _ (by omega) (by omega)
    clear hv hb
    go_wp2
    go_round
    case rel => exact ⟨i + 1, by omega, by rw [hsn.out, Int.mul_comm], by go_num⟩
    case measure => simp [intOf]; omega
  · obtain rfl : i = 8 := by omega
    have c3b : decide (((8 : Int)) < (8 : Int)) = false := decide_eq_false (by omega)
    have q1 := eq_true (show (8 : Int) ≤ (l.length : Int) by omega)
    have hF2 := HF.out.drop (s := 8) hn hs
    have hD : (l.drop 8).length = l.length - 8 := List.length_drop
    by_cases hc : c = 8
    · go_wp2
      go_ret
      exact ⟨rfl, Tk.mk_good (A := some ad) (c := 0) (by rw [hD]; exact blk_put HT.out 0 _ rfl) (by omega) (hB.drop _) (by have := hF2; unfold adv at this; rw [if_pos hc] at this; exact this.set 0 _), (Ch.refl (one g) _).set (p := ⟨g, 0, none⟩) (fun _ => rfl) _⟩
    · have q2 := eq_true (show (8 : Int) ≤ (c : Int) by omega)
      go_wp2
      go_ret
      exact ⟨rfl, Tk.mk_good (c := c - 8) (by rw [hD]; exact blk_put HT.out 0 _ rfl) (by omega) (hB.drop _) (by have := hF2; unfold adv at this; rw [if_neg hc] at this; exact this.set 0 _), (Ch.refl (one g) _).set (p := ⟨g, 0, none⟩) (fun _ => rfl) _⟩
/-- The reference's. -/
theorem takeR {g : Nat} (s : Nat) (st : Option (List Int)) (w : World) (h : Tk 134 lo w g st) (h1 : 1 ≤ s) (h8 : s ≤ 8) :
  Calls Try.prog 68 #[.pointer (some ⟨g, 0, none⟩), .int .i64 (s : Int)] w fun e w' => e = .returned (.int .i64 (take s st).1) ∧ Tk 134 lo w' g (take s st).2 ∧ Ch (one g) w w' := by
  cases st with
  | none => exact rtake_bad s w h
  | some l =>
    by_cases hs : l.length < s
    · rw [take_off s l (.inl hs)]
      exact rtake_short s l w h hs
    · by_cases e8 : s = 8
      · subst e8
        by_cases hh : 128 ≤ rd l 0
        · rw [take_off 8 l (.inr ⟨rfl, hh⟩)]
          exact rtake_high l w h hs hh
        · rw [take_on 8 l (fun h => h.elim hs (fun h => hh h.2))]
          exact rtake_yes8 l w h (by omega) hh
      · rw [take_on s l (fun h => h.elim hs (fun h => e8 h.1))]
        exact rtake_yes s l w h (by omega) (by omega) h1
end Go.Proofs.Ytgikjgekdeaneaa.Wire
