/- Wire, the plain part: messages as bytes and back. -/
import Derived.Test.YtgikjgekdeaneaaWireS
namespace Go.Proofs.Ytgikjgekdeaneaa.Wire
open Go.RowKit Go.Proofs.Ytgikjgekdeaneaa.QWire Go.Proofs.YtgikjgekdeaneaaW.PrintWords Go.Proofs.YtgikjgekdeaneaaW.PrintLast Go.Proofs.YtgikjgekdeaneaaW.PrintMore Go.Proofs.Ytgikjgekdeaneaa.Own
set_option linter.unusedVariables false
set_option linter.unusedSimpArgs false
theorem p1 : (256 : Int) ^ 1 = 256 := by decide
theorem p2 : (256 : Int) ^ 2 = 65536 := by decide
theorem p4 : (256 : Int) ^ 4 = 4294967296 := by decide
theorem p8 : (256 : Int) ^ 8 = 18446744073709551616 := by decide
/-- Its numbers are int64. -/
def Fit (m : Msg) : Prop := m.p < 9223372036854775808 ∧ m.q < 9223372036854775808 ∧ m.n < 9223372036854775808 ∧ m.t < 9223372036854775808 ∧ m.y < 9223372036854775808 ∧ m.m < 9223372036854775808
theorem take8 (x : Int) (r : List Int) (h0 : 0 ≤ x) (h8 : x < 9223372036854775808) : take 8 (some (be 8 x ++ r)) = (x, some r) := take_be 8 x r (by decide) h0 (by rw [p8]; omega) (fun _ => h8)
theorem take4 (x : Int) (r : List Int) (h0 : 0 ≤ x) (h8 : x ≤ 4294967295) : take 4 (some (be 4 x ++ r)) = (x, some r) := take_be 4 x r (by decide) h0 (by rw [p4]; omega) (fun h => by omega)
theorem take2 (x : Int) (r : List Int) (h0 : 0 ≤ x) (h8 : x ≤ 65535) : take 2 (some (be 2 x ++ r)) = (x, some r) := take_be 2 x r (by decide) h0 (by rw [p2]; omega) (fun h => by omega)
theorem take1 (x : Int) (r : List Int) (h0 : 0 ≤ x) (h8 : x ≤ 255) : take 1 (some (be 1 x ++ r)) = (x, some r) := take_be 1 x r (by decide) h0 (by rw [p1]; omega) (fun h => by omega)
theorem take8' (x : Int) (h0 : 0 ≤ x) (h8 : x < 9223372036854775808) (r : List Int) : take 8 (some (be 8 x ++ r)) = (x, some r) := take8 x r h0 h8
theorem ord_be (a s : Int) (b : Bool) (p q n t : Int) (r : List Int) (ha : 0 ≤ a ∧ a ≤ 65535) (hs : 0 ≤ s ∧ s ≤ 65535) (hp : 0 ≤ p ∧ p < 9223372036854775808) (hq : 0 ≤ q ∧ q < 9223372036854775808) (hn : 0 ≤ n ∧ n < 9223372036854775808) (ht : 0 ≤ t ∧ t < 9223372036854775808) :
    ord (some (be 2 a ++ (be 2 s ++ (be 1 (if b then 1 else 0) ++ (be 8 p ++ (be 8 q ++ (be 8 n ++ (be 8 t ++ r)))))))) = (⟨a, s, b, p, q, n, t⟩, some r) := by
  unfold ord
  rw [take2 a _ ha.1 ha.2]; simp only
  rw [take2 s _ hs.1 hs.2]; simp only
  have hb : (0 : Int) ≤ (if b then 1 else 0) ∧ (if b then 1 else 0 : Int) ≤ 255 := by cases b <;> decide
  rw [take1 _ _ hb.1 hb.2]; simp only
  have hb2 : ¬ 1 < (if b then 1 else 0 : Int) := by cases b <;> decide
  rw [if_neg hb2, take8 p _ hp.1 hp.2]; simp only
  rw [take8 q _ hq.1 hq.2]; simp only
  rw [take8 n _ hn.1 hn.2]; simp only
  rw [take8 t _ ht.1 ht.2]
  cases b <;> rfl
theorem dec_enc (m : Msg) (r : List Int) (h : Right m) (hf : Fit m) : dec (enc m ++ r) = some (m, r) := by
  obtain ⟨hk, hb, hp, ha, hu, hi⟩ := h
  obtain ⟨f1, f2, f3, f4, f5, f6⟩ := hf
  have ht := take1 m.k (body m ++ r) hk.1 (by omega)
  have hd : decM (enc m ++ r) = (m, some r) := by
    unfold decM enc
    rw [List.append_assoc, ht]
    unfold body
    simp only
    by_cases h0 : m.k = 0
    · rw [if_pos h0, if_pos h0]
      simp only [List.append_assoc]
      rw [ord_be _ _ _ _ _ _ _ _ ⟨ha.1, hu.1⟩ ⟨ha.2.1, hu.2.1⟩ ⟨hp.1, f1⟩ ⟨hp.2.1, f2⟩ ⟨hp.2.2.1, f3⟩ ⟨hp.2.2.2.1, f4⟩]
      simp only
      have e : bareM m = ⟨m.k, m.a, m.s, m.b, m.p, m.q, m.n, m.t, 0, 0, 0, 0⟩ := by unfold bareM; rw [if_pos h0]
      rw [h0] at e
      rw [← e, hb]
    · rw [if_neg h0, if_neg h0]
      by_cases h1 : m.k = 1 ∨ m.k = 3
      · rw [if_pos h1, if_pos h1, take4 _ _ ha.2.2.2 hi]
        have e : bareM m = ⟨m.k, 0, 0, false, 0, 0, 0, 0, m.i, 0, 0, 0⟩ := by unfold bareM; rw [if_neg h0, if_pos h1]
        simp only [zero]
        rw [← e, hb]
      · rw [if_neg h1, if_neg h1]
        by_cases h2 : m.k = 2
        · rw [if_pos h2, if_pos h2, List.append_assoc, take4 _ _ ha.2.2.2 hi]
          simp only
          rw [take8 _ _ hp.2.2.2.2.1 f5]
          have e : bareM m = ⟨m.k, 0, 0, false, 0, 0, 0, 0, m.i, m.y, 0, 0⟩ := by unfold bareM; rw [if_neg h0, if_neg h1, if_pos h2]
          simp only [zero]
          rw [← e, hb]
        · rw [if_neg h2, if_neg h2]
          by_cases h6 : m.k = 6
          · rw [if_pos h6, if_pos h6, List.append_assoc, take2 _ _ ha.2.2.1 hu.2.2]
            simp only
            rw [take8 _ _ hp.2.2.2.2.2 f6]
            have e : bareM m = ⟨m.k, 0, 0, false, 0, 0, 0, 0, 0, 0, m.d, m.m⟩ := by unfold bareM; rw [if_neg h0, if_neg h1, if_neg h2, if_pos h6]
            simp only [zero]
            rw [← e, hb]
          · rw [if_neg h6, if_neg h6]
            have e : bareM m = ⟨m.k, 0, 0, false, 0, 0, 0, 0, 0, 0, 0, 0⟩ := by unfold bareM; rw [if_neg h0, if_neg h1, if_neg h2, if_neg h6]
            simp only [zero, List.nil_append]
            rw [← e, hb]
  unfold dec
  rw [hd]
  simp only
  rw [if_neg (by omega)]
theorem ord_some (st : Option (List Int)) (o : Ord) (r : List Int) (hb : ∀ l, st = some l → Bytes l) (h : ord st = (o, some r)) :
    st = some (be 2 o.a ++ (be 2 o.s ++ (be 1 (if o.b then 1 else 0) ++ (be 8 o.p ++ (be 8 o.q ++ (be 8 o.n ++ (be 8 o.t ++ r))))))) ∧ (0 ≤ o.a ∧ o.a ≤ 65535) ∧ (0 ≤ o.s ∧ o.s ≤ 65535) ∧ (0 ≤ o.p ∧ o.p < 9223372036854775808) ∧ (0 ≤ o.q ∧ o.q < 9223372036854775808) ∧ (0 ≤ o.n ∧ o.n < 9223372036854775808) ∧ (0 ≤ o.t ∧ o.t < 9223372036854775808) := by
  obtain ⟨x1, s1, e1⟩ : ∃ x s, take 2 st = (x, s) := ⟨_, _, rfl⟩
  obtain ⟨x2, s2, e2⟩ : ∃ x s, take 2 s1 = (x, s) := ⟨_, _, rfl⟩
  obtain ⟨x3, s3, e3⟩ : ∃ x s, take 1 s2 = (x, s) := ⟨_, _, rfl⟩
  obtain ⟨x4, s4, e4⟩ : ∃ x s, take 8 (if 1 < x3 then none else s3) = (x, s) := ⟨_, _, rfl⟩
  obtain ⟨x5, s5, e5⟩ : ∃ x s, take 8 s4 = (x, s) := ⟨_, _, rfl⟩
  obtain ⟨x6, s6, e6⟩ : ∃ x s, take 8 s5 = (x, s) := ⟨_, _, rfl⟩
  obtain ⟨x7, s7, e7⟩ : ∃ x s, take 8 s6 = (x, s) := ⟨_, _, rfl⟩
  have eo : ord st = (⟨x1, x2, x3 == 1, x4, x5, x6, x7⟩, s7) := by simp only [ord, e1, e2, e3, e4, e5, e6, e7]
  rw [eo] at h
  have h7 : s7 = some r := congrArg Prod.snd h
  have ho : o = ⟨x1, x2, x3 == 1, x4, x5, x6, x7⟩ := (congrArg Prod.fst h).symm
  subst h7 ho
  have g : ∀ (s : Nat) (st : Option (List Int)) (x : Int) (q : Option (List Int)) (w : List Int), take s st = (x, q) → q = some w → ∃ l, st = some l := by
    intro s st x q w h hq
    obtain ⟨l, e, _⟩ := take_len s st w (by rw [h]; exact hq)
    exact ⟨l, e⟩
  obtain ⟨l6, rfl⟩ := g 8 s6 _ _ r e7 rfl
  obtain ⟨l5, rfl⟩ := g 8 s5 _ _ _ e6 rfl
  obtain ⟨l4, rfl⟩ := g 8 s4 _ _ _ e5 rfl
  obtain ⟨l3', h3'⟩ := g 8 _ _ _ _ e4 rfl
  have hx3 : ¬ 1 < x3 := fun hx => by rw [if_pos hx] at h3'; cases h3'
  rw [if_neg hx3] at h3' e4
  subst h3'
  obtain ⟨l2, rfl⟩ := g 1 s2 _ _ _ e3 rfl
  obtain ⟨l1, rfl⟩ := g 2 s1 _ _ _ e2 rfl
  have a1 := take_some 2 st x1 l1 hb (by decide) e1
  have a2 := take_some 2 _ x2 l2 (fun l h => by cases h; exact a1.2.2.2.2) (by decide) e2
  have a3 := take_some 1 _ x3 _ (fun l h => by cases h; exact a2.2.2.2.2) (by decide) e3
  have a4 := take_some 8 _ x4 l4 (fun l h => by cases h; exact a3.2.2.2.2) (by decide) e4
  have a5 := take_some 8 _ x5 l5 (fun l h => by cases h; exact a4.2.2.2.2) (by decide) e5
  have a6 := take_some 8 _ x6 l6 (fun l h => by cases h; exact a5.2.2.2.2) (by decide) e6
  have a7 := take_some 8 _ x7 r (fun l h => by cases h; exact a6.2.2.2.2) (by decide) e7
  have b2 := Option.some.inj a2.1
  have b3 := Option.some.inj a3.1
  have b4 := Option.some.inj a4.1
  have b5 := Option.some.inj a5.1
  have b6 := Option.some.inj a6.1
  have b7 := Option.some.inj a7.1
  have c3 : (if (x3 == 1) then (1 : Int) else 0) = x3 := by
    by_cases hx : x3 = 1
    · subst hx; rfl
    · have : x3 = 0 := by omega
      subst this; rfl
  rw [p2] at a1 a2
  refine ⟨?_, ⟨a1.2.1, by show x1 ≤ 65535; omega⟩, ⟨a2.2.1, by show x2 ≤ 65535; omega⟩, ⟨a4.2.1, a4.2.2.2.1 rfl⟩, ⟨a5.2.1, a5.2.2.2.1 rfl⟩, ⟨a6.2.1, a6.2.2.2.1 rfl⟩, ⟨a7.2.1, a7.2.2.2.1 rfl⟩⟩
  rw [a1.1, b2, b3, b4, b5, b6, b7, c3]
theorem enc_dec (l : List Int) (m : Msg) (r : List Int) (hB : Bytes l) (h : dec l = some (m, r)) : (Right m ∧ Fit m) ∧ l = enc m ++ r := by
  unfold dec at h
  split at h
  · cases h
  rename_i q hq
  split at h
  · cases h
  rename_i h6
  injection h with h
  have hm : (decM l).1 = m := congrArg Prod.fst h
  have hr : q = r := congrArg Prod.snd h
  subst hr
  obtain ⟨k, s1, e1⟩ : ∃ x s, take 1 (some l) = (x, s) := ⟨_, _, rfl⟩
  have g : ∀ (s : Nat) (st : Option (List Int)) (x : Int) (q : Option (List Int)) (w : List Int), take s st = (x, q) → q = some w → ∃ l, st = some l := by
    intro s st x q w h hq
    obtain ⟨l, e, _⟩ := take_len s st w (by rw [h]; exact hq)
    exact ⟨l, e⟩
  have hB0 : ∀ l', some l = some l' → Bytes l' := fun l' h => by cases h; exact hB
  have hd : decM l = (m, some q) := by rw [← hm, ← hq]
  rw [hm] at h6
  unfold decM at hd
  rw [e1] at hd
  simp only at hd
  by_cases h0 : k = 0
  · subst h0
    rw [if_pos rfl] at hd
    obtain ⟨o, s2, e2⟩ : ∃ o s, ord s1 = (o, s) := ⟨_, _, rfl⟩
    rw [e2] at hd
    have h1 : m = ⟨0, o.a, o.s, o.b, o.p, o.q, o.n, o.t, 0, 0, 0, 0⟩ := (congrArg Prod.fst hd).symm
    have h2 : s2 = some q := congrArg Prod.snd hd
    subst h1 h2
    have hs : ∃ l1, s1 = some l1 := by
      cases s1 with
      | some l1 => exact ⟨l1, rfl⟩
      | none => simp [ord, take] at e2
    obtain ⟨l1, rfl⟩ := hs
    have a0 := take_some 1 _ 0 l1 hB0 (by decide) e1
    obtain ⟨b1, c1, c2, c3, c4, c5, c6⟩ := ord_some _ o q (fun l h => by cases h; exact a0.2.2.2.2) e2
    refine ⟨⟨⟨by simp [zero], rfl, ⟨c3.1, c4.1, c5.1, c6.1, Int.le_refl _, Int.le_refl _⟩, ⟨c1.1, c2.1, Int.le_refl _, Int.le_refl _⟩, ⟨c1.2, c2.2, by simp [zero]⟩, by simp [zero]⟩, ⟨c3.2, c4.2, c5.2, c6.2, by simp [zero], by simp [zero]⟩⟩, ?_⟩
    rw [Option.some.inj a0.1, Option.some.inj b1]
    simp [enc, body]
  · rw [if_neg h0] at hd
    by_cases h1 : k = 1 ∨ k = 3
    · rw [if_pos h1] at hd
      obtain ⟨x, s2, e2⟩ : ∃ o s, take 4 s1 = (o, s) := ⟨_, _, rfl⟩
      rw [e2] at hd
      have hm1 : m = { zero with k := k, i := x } := (congrArg Prod.fst hd).symm
      have h2 : s2 = some q := congrArg Prod.snd hd
      subst hm1 h2
      obtain ⟨l1, rfl⟩ := g 4 s1 _ _ _ e2 rfl
      have a0 := take_some 1 _ k l1 hB0 (by decide) e1
      have a1 := take_some 4 _ x q (fun l h => by cases h; exact a0.2.2.2.2) (by decide) e2
      rw [p4] at a1
      have hx : x ≤ 4294967295 := by omega
      refine ⟨⟨⟨⟨a0.2.1, by show k ≤ 6; omega⟩, by unfold bareM; rw [if_neg h0, if_pos h1]; rfl, by simp [zero], ⟨by simp [zero], by simp [zero], by simp [zero], a1.2.1⟩, by simp [zero], hx⟩, by simp [Fit, zero]⟩, ?_⟩
      rw [Option.some.inj a0.1, Option.some.inj a1.1]
      simp [enc, body, zero, h0, h1]
    · rw [if_neg h1] at hd
      by_cases h2 : k = 2
      · rw [if_pos h2] at hd
        obtain ⟨x, s2, e2⟩ : ∃ o s, take 4 s1 = (o, s) := ⟨_, _, rfl⟩
        obtain ⟨y, s3, e3⟩ : ∃ o s, take 8 s2 = (o, s) := ⟨_, _, rfl⟩
        rw [e2] at hd
        simp only at hd
        rw [e3] at hd
        have hm1 : m = { zero with k := k, i := x, y := y } := (congrArg Prod.fst hd).symm
        have h3 : s3 = some q := congrArg Prod.snd hd
        subst hm1 h3
        obtain ⟨l2, rfl⟩ := g 8 s2 _ _ _ e3 rfl
        obtain ⟨l1, rfl⟩ := g 4 s1 _ _ _ e2 rfl
        have a0 := take_some 1 _ k l1 hB0 (by decide) e1
        have a1 := take_some 4 _ x l2 (fun l h => by cases h; exact a0.2.2.2.2) (by decide) e2
        have a2 := take_some 8 _ y q (fun l h => by cases h; exact a1.2.2.2.2) (by decide) e3
        rw [p4] at a1
        have hx : x ≤ 4294967295 := by omega
        refine ⟨⟨⟨⟨a0.2.1, by show k ≤ 6; omega⟩, by unfold bareM; rw [if_neg h0, if_neg h1, if_pos h2]; rfl, ⟨by simp [zero], by simp [zero], by simp [zero], by simp [zero], a2.2.1, by simp [zero]⟩, ⟨by simp [zero], by simp [zero], by simp [zero], a1.2.1⟩, by simp [zero], hx⟩, ⟨by simp [zero], by simp [zero], by simp [zero], by simp [zero], a2.2.2.2.1 rfl, by simp [zero]⟩⟩, ?_⟩
        rw [Option.some.inj a0.1, Option.some.inj a1.1, Option.some.inj a2.1]
        subst h2
        simp [enc, body, zero]
      · rw [if_neg h2] at hd
        by_cases hk6 : k = 6
        · rw [if_pos hk6] at hd
          obtain ⟨x, s2, e2⟩ : ∃ o s, take 2 s1 = (o, s) := ⟨_, _, rfl⟩
          obtain ⟨y, s3, e3⟩ : ∃ o s, take 8 s2 = (o, s) := ⟨_, _, rfl⟩
          rw [e2] at hd
          simp only at hd
          rw [e3] at hd
          have hm1 : m = { zero with k := k, d := x, m := y } := (congrArg Prod.fst hd).symm
          have h3 : s3 = some q := congrArg Prod.snd hd
          subst hm1 h3
          obtain ⟨l2, rfl⟩ := g 8 s2 _ _ _ e3 rfl
          obtain ⟨l1, rfl⟩ := g 2 s1 _ _ _ e2 rfl
          have a0 := take_some 1 _ k l1 hB0 (by decide) e1
          have a1 := take_some 2 _ x l2 (fun l h => by cases h; exact a0.2.2.2.2) (by decide) e2
          have a2 := take_some 8 _ y q (fun l h => by cases h; exact a1.2.2.2.2) (by decide) e3
          rw [p2] at a1
          have hx : x ≤ 65535 := by omega
          refine ⟨⟨⟨⟨a0.2.1, by show k ≤ 6; omega⟩, by unfold bareM; rw [if_neg h0, if_neg h1, if_neg h2, if_pos hk6]; rfl, ⟨by simp [zero], by simp [zero], by simp [zero], by simp [zero], by simp [zero], a2.2.1⟩, ⟨by simp [zero], by simp [zero], a1.2.1, by simp [zero]⟩, ⟨by simp [zero], by simp [zero], hx⟩, by simp [zero]⟩, ⟨by simp [zero], by simp [zero], by simp [zero], by simp [zero], by simp [zero], a2.2.2.2.1 rfl⟩⟩, ?_⟩
          rw [Option.some.inj a0.1, Option.some.inj a1.1, Option.some.inj a2.1]
          subst hk6
          simp [enc, body, zero]
        · rw [if_neg hk6] at hd
          have hm1 : m = { zero with k := k } := (congrArg Prod.fst hd).symm
          have h3 : s1 = some q := congrArg Prod.snd hd
          subst hm1 h3
          have a0 := take_some 1 _ k q hB0 (by decide) e1
          have hk7 : k ≤ 6 := by have : ¬ 6 < k := h6; omega
          refine ⟨⟨⟨⟨a0.2.1, hk7⟩, by unfold bareM; rw [if_neg h0, if_neg h1, if_neg h2, if_neg hk6]; rfl, by simp [zero], by simp [zero], by simp [zero], by simp [zero]⟩, by simp [Fit, zero]⟩, ?_⟩
          rw [Option.some.inj a0.1]
          simp [enc, body, h0, h1, h2, hk6]
end Go.Proofs.Ytgikjgekdeaneaa.Wire
