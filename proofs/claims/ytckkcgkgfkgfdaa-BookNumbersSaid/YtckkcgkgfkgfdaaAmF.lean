/- What cuts, built values and lengths mean in a world; all that turns nothing. Plain laws; no condition. -/
import Derived.Test.YtckkcgkgfkgfdaaAmE
import Derived.Laws.Tables
namespace Go.Proofs.Ytckkcgkgfkgfdaa.AM
section
variable {φ : Phi} {H : Nat → Prop} {F : Fr} {w : World} {ob : List Ent} {nx : Nat} {P : Program} {T : Tab}
def bnd (x : Option Int) (d : Nat) : Nat := match x with | none => d | some i => i.toNat
theorem run_cut (hT : TabOk P T) {t e : TypeId} {s b : Nat} {z : Option Value} {q : Bool} {ei : TI} (hi : tget T t = some ⟨.slice e, s, b, z, q⟩) (he : tget T e = some ei) (a : Option Addr) (n cap : Nat) (lo hi' mx : Option Int) (k1 k2 k3 : IntKind)
    (h0 : ∀ x, lo = some x → 0 ≤ x) (h1 : ∀ x, hi' = some x → 0 ≤ x) (h2 : ∀ x, mx = some x → 0 ≤ x) (hm : mx ≠ none → hi' ≠ none) (hc : bnd mx cap ≤ cap) (hh : bnd hi' n ≤ bnd mx cap) (hl : bnd lo 0 ≤ bnd hi' n) :
    (Instr.sliceAt t (.slice a n cap) (lo.map (.int k1)) (hi'.map (.int k2)) (mx.map (.int k3))).run P w =
      .ok (.slice (if bnd mx cap = bnd lo 0 then a else a.map (·.add (bnd lo 0 * ei.size))) (bnd hi' n - bnd lo 0) (bnd mx cap - bnd lo 0)) w := by
  have hund := hT.und hi
  have sb : ∀ (k : IntKind) (x : Int) (y : Nat) (c : BoundsCode) (w : World), 0 ≤ x → x.toNat ≤ y → (Instr.sliceBound (.int k x) y c).run P w = .ok x.toNat w := fun k x y c w hx hy => by
    have : x ≤ y := by omega
    simp [Instr.sliceBound, asIntOf, hx, this]
  have bb : ∀ w, (Instr.sliceBounds true n cap (lo.map (.int k1)) (hi'.map (.int k2)) (mx.map (.int k3))).run P w = .ok (bnd lo 0, bnd hi' n, bnd mx cap) w := fun w => by
    cases mx with
    | none =>
      cases hi' with
      | none =>
        cases lo with
        | none => simp [Instr.sliceBounds, bnd]
        | some l => simp [Instr.sliceBounds, bnd, sb k1 l n _ w (h0 l rfl) (by simpa [bnd] using hl)]
      | some h =>
        have e2 := fun c => sb k2 h cap c w (h1 h rfl) (by simpa [bnd] using hh)
        cases lo with
        | none => simp [Instr.sliceBounds, bnd, e2]
        | some l => simp [Instr.sliceBounds, bnd, e2, sb k1 l h.toNat _ w (h0 l rfl) (by simpa [bnd] using hl)]
    | some m =>
      cases hi' with
      | none => exact absurd rfl (hm (by simp))
      | some h =>
        have e3 := fun c => sb k3 m cap c w (h2 m rfl) (by simpa [bnd] using hc)
        have e2 := fun c => sb k2 h m.toNat c w (h1 h rfl) (by simpa [bnd] using hh)
        cases lo with
        | none => simp [Instr.sliceBounds, bnd, e3, e2]
        | some l => simp [Instr.sliceBounds, bnd, e3, e2, sb k1 l h.toNat _ w (h0 l rfl) (by simpa [bnd] using hl)]
  simp only [Instr.sliceAt, Sem.run_bind, run_underlying hund, Result.andThen_ok, Instr.slice, bb, hT.size he, Sem.run_pure]
theorem le_of {a b : Int} (h : real.le a b = true) : a ≤ b := by simpa [real] using h
/-- What a cut's tests say. -/
theorem cutC_ok {lo hi mx : Option Int} {n cap : Nat} {cs : List Bool} (h : cutC real lo hi mx n = some cs) (hc : ∀ c ∈ cs, c = true) (hn : n ≤ cap) :
    (∀ x, lo = some x → 0 ≤ x) ∧ (∀ x, hi = some x → 0 ≤ x) ∧ (∀ x, mx = some x → 0 ≤ x) ∧ (mx ≠ none → hi ≠ none) ∧ bnd mx cap ≤ cap ∧ bnd hi n ≤ bnd mx cap ∧ bnd lo 0 ≤ bnd hi n ∧ bnd hi n ≤ n := by
  unfold cutC at h
  split at h <;> simp at h <;> subst h
  · simp [bnd]; omega
  · rename_i l
    have a := le_of (hc _ List.mem_cons_self)
    have b := le_of (hc (real.le l (real.n2i n)) (by simp))
    have b : l ≤ (n : Int) := b
    simp [bnd]; omega
  · rename_i l
    have a := le_of (hc _ List.mem_cons_self)
    have b := le_of (hc (real.le l (real.n2i n)) (by simp))
    have b : l ≤ (n : Int) := b
    simp [bnd]; omega
  · rename_i l h
    have a := le_of (hc _ List.mem_cons_self)
    have b := le_of (hc (real.le l h) (by simp))
    have c := le_of (hc (real.le h (real.n2i n)) (by simp))
    have c : h ≤ (n : Int) := c
    simp [bnd]; omega
  · rename_i h m
    have a := le_of (hc _ List.mem_cons_self)
    have b := le_of (hc (real.le h m) (by simp))
    have c := le_of (hc (real.le m (real.n2i n)) (by simp))
    have c : m ≤ (n : Int) := c
    simp [bnd]; omega
  · rename_i l h m
    have z := le_of (hc _ List.mem_cons_self)
    have a := le_of (hc (real.le l h) (by simp))
    have b := le_of (hc (real.le h m) (by simp))
    have c := le_of (hc (real.le m (real.n2i n)) (by simp))
    have c : m ≤ (n : Int) := c
    simp [bnd]; omega
/-- A cut of a row that stands. -/
theorem slR_cut {st : Nat} {gd full f : Bool} {us : List Value} {a : Option Addr} {n cap l h m : Nat} (hs : SlR H w st gd full us (.slice a n cap)) (hl : l ≤ h) (hh : h ≤ n) (hm : h ≤ m) (_ : m ≤ cap) (hf : f = true → m = h) :
    SlR H w st gd f ((us.drop l).take (h - l)) (.slice (if m = l then a else a.map (·.add (l * st))) (h - l) (m - l)) := by
  obtain ⟨a', n', cap', e, hn, hcap, hfull, ho, hh', hg⟩ := hs
  obtain ⟨rfl, rfl, rfl⟩ : a = a' ∧ n = n' ∧ cap = cap' := by injection e with e1 e2 e3; exact ⟨e1, e2, e3⟩
  have hlen : ((us.drop l).take (h - l)).length = h - l := by simp; omega
  refine ⟨_, _, _, rfl, hlen, by omega, fun x => by have := hf x; omega, ones_take (ones_drop ho l) _, ?_, fun g ad had => ?_⟩
  · rw [fl_take (ones_drop ho l), fl_drop ho]
    rcases hh' with h1 | ⟨ad, rfl, h2, h3, h4⟩
    · exact .inl (by simp [h1])
    · by_cases hml : m = l
      · have : h - l = 0 := by omega
        exact .inl (by simp [this])
      · obtain ⟨bk, of, sp⟩ := ad
        obtain rfl : sp = none := h2
        refine .inr ⟨⟨bk, of + l * st, none⟩, by rw [if_neg hml]; simp [addr_add], rfl, h3, range_take (range_drop h4 _) _⟩
  · by_cases hml : m = l
    · rw [if_pos hml] at had
      obtain ⟨h1, h2, T, N, h3, h4⟩ := hg g ad had
      have h5 : h - l = 0 := by omega
      exact ⟨h1, h2, T, N, h3, by rw [h5]; omega⟩
    · rw [if_neg hml] at had
      cases a with
      | none => simp at had
      | some ad' =>
        obtain ⟨h1, h2, T, N, h3, h4⟩ := hg g ad' rfl
        obtain ⟨bk, of, sp⟩ := ad'
        obtain rfl : sp = none := h1
        have : ad = ⟨bk, of + l * st, none⟩ := by simpa [addr_add] using had.symm
        subst this
        refine ⟨rfl, h2, T, N, h3, ?_⟩
        simp only at h4 ⊢
        have : l * st + (h - l) * st ≤ n * st := by rw [← Nat.add_mul]; exact Nat.mul_le_mul_right _ (by omega)
        omega
theorem asliceN_ok (hT : TabOk P T) {t e : TypeId} {s b : Nat} {z : Option Value} {q : Bool} {ei : TI} (hi0 : tget T t = some ⟨.slice e, s, b, z, q⟩) (he : tget T e = some ei) {x : AV} {lo hi mx : Option Int} {h m : Int} {u : Value} (hu : VR φ H w x u) (hss : isNoneSS lo hi mx = some (h, m)) {cs : List Bool} {v : AV} (hh : asliceN real ei.size x h m = some (cs, v)) (hc : ∀ c ∈ cs, c = true) (k1 k2 k3 : IntKind) :
    ∃ z, (Instr.sliceAt t u (lo.map (.int k1)) (hi.map (.int k2)) (mx.map (.int k3))).run P w = .ok z w ∧ VR φ H w v z := by
  obtain ⟨rfl, rfl, rfl⟩ : lo = none ∧ hi = some h ∧ mx = some m := by
    cases lo <;> cases hi <;> cases mx <;> simp [isNoneSS] at hss
    simp [hss]
  have run : ∀ a n cap, h = 0 → m = 0 → (Instr.sliceAt t (.slice a n cap) ((none : Option Int).map (.int k1)) ((some h).map (.int k2)) ((some m).map (.int k3))).run P w = .ok (.slice a 0 0) w := fun a n cap e1 e2 => by
    subst e1; subst e2
    have := run_cut hT hi0 he a n cap none (some 0) (some 0) k1 k2 k3 (by simp) (by simp) (by simp) (by simp) (by simp [bnd]) (by simp [bnd]) (by simp [bnd]) (w := w)
    simpa [bnd] using this
  have two : cs = [real.eq h 0, real.eq m 0] → h = 0 ∧ m = 0 := fun e => by
    subst e
    have a1 := hc (real.eq h 0) (by simp)
    have a2 := hc (real.eq m 0) (by simp)
    exact ⟨by simpa [real] using a1, by simpa [real] using a2⟩
  have nil : ∀ {st : Nat} {gd : Bool} (a : Option Addr), (gd = true → ∀ ad, a = some ad → okAd w ad 0) → VR φ H w (.list st gd true []) (.slice a 0 0) := fun a hok =>
    ⟨[], rfl, a, 0, 0, rfl, rfl, Nat.le_refl _, fun _ => rfl, (fun _ h => by cases h), .inl rfl, fun g ad e => by simpa using hok g ad e⟩
  unfold asliceN at hh
  split at hh
  · rename_i ix bs st' a n
    cases hst : okst st' ei.size <;> simp [hst] at hh
    obtain ⟨rfl, rfl⟩ := hh
    obtain ⟨e1, e2⟩ := two rfl
    rcases hu with ⟨b, o, cap, N, M, hp, rfl, hcap, hsh, hM, hfz⟩ | ⟨rfl, ad, rfl, had⟩
    · refine ⟨_, run _ _ _ e1 e2, nil _ fun _ ad e => ?_⟩
      cases e
      refine ⟨rfl, hfz, N, M, hsh, ?_⟩
      have : (a + cap) * st' = a * st' + cap * st' := Nat.add_mul ..
      simp only; omega
    · exact ⟨_, run _ _ _ e1 e2, nil _ fun _ ad e => had ad e⟩
  · rename_i st' gd full l
    cases hst : okst st' ei.size <;> simp [hst] at hh
    obtain ⟨rfl, rfl⟩ := hh
    obtain ⟨e1, e2⟩ := two rfl
    obtain ⟨us, _, a, n, cap, rfl, _, _, _, _, _, hg⟩ := hu
    refine ⟨_, run _ _ _ e1 e2, nil _ fun g ad e => ?_⟩
    obtain ⟨h1, h2, N, M, h3, h4⟩ := hg g ad e
    exact ⟨h1, h2, N, M, h3, by omega⟩
  · rename_i st' gd full α enc d l
    cases hst : okst st' ei.size <;> simp [hst] at hh
    obtain ⟨rfl, rfl⟩ := hh
    obtain ⟨e1, e2⟩ := two rfl
    obtain ⟨us, _, _, a, n, cap, rfl, _, _, _, _, _, hg⟩ := hu
    refine ⟨_, run _ _ _ e1 e2, nil _ fun g ad e => ?_⟩
    obtain ⟨h1, h2, N, M, h3, h4⟩ := hg g ad e
    exact ⟨h1, h2, N, M, h3, by omega⟩
  · simp at hh
    obtain ⟨rfl, rfl⟩ := hh
    obtain ⟨e1, e2⟩ := two rfl
    have hu : u = .slice none 0 0 := hu
    subst hu
    exact ⟨_, run _ _ _ e1 e2, rfl⟩
  · simp at hh
theorem aslice_ok (hT : TabOk P T) {t : TypeId} {x : AV} {lo hi mx : Option Int} {u : Value} (hu : VR φ H w x u) {cs : List Bool} {v : AV} (h : aslice real T t x lo hi mx = some (cs, v)) (hc : ∀ c ∈ cs, c = true) (k1 k2 k3 : IntKind) :
    ∃ z, (Instr.sliceAt t u (lo.map (.int k1)) (hi.map (.int k2)) (mx.map (.int k3))).run P w = .ok z w ∧ VR φ H w v z := by
  unfold aslice at h
  split at h
  · rename_i e s b z q hi0
    cases he : tget T e with
    | none => simp [he] at h
    | some ei =>
      simp only [he] at h
      cases hss : isNoneSS lo hi mx with
      | some p =>
        obtain ⟨h', m'⟩ := p
        simp only [hss] at h
        exact asliceN_ok hT hi0 he hu hss h hc k1 k2 k3
      | none =>
      simp only [hss] at h
      cases x <;> try (simp at h; done)
      case own ix bs st a n =>
        simp only at h
        cases hst : okst st ei.size with
        | false => simp [hst] at h
        | true =>
          rw [hst, cond_true] at h
          obtain ⟨rfl, hpos⟩ := okst_of hst
          cases hcc : cutC real lo hi mx n with
          | none => simp [hcc] at h
          | some cs' =>
            simp only [hcc] at h
            have key : ∃ l' h', bnd lo 0 = l' ∧ bnd hi n = h' ∧ cs = cs' ∧ v = .own ix bs ei.size (a + l') (h' - l') := by
              cases lo <;> cases hi <;> simp [real] at h <;> obtain ⟨rfl, rfl⟩ := h <;> exact ⟨_, _, rfl, rfl, rfl, by simp [bnd]⟩
            obtain ⟨l', h', hl', hh', rfl, rfl⟩ := key
            rcases hu with ⟨b, o, cap, N, M, hp, rfl, hcap, hsh, hM, hfz⟩ | ⟨rfl, ad, rfl, had⟩
            · obtain ⟨q1, q2, q3, q4, q5, q6, q7, q8⟩ := cutC_ok hcc hc hcap
              refine ⟨_, run_cut hT hi0 he _ n cap lo hi mx k1 k2 k3 q1 q2 q3 q4 q5 q6 q7, ?_⟩
              rw [hl', hh'] at *
              by_cases hml : bnd mx cap = l'
              · have e1 : h' - l' = 0 := by omega
                rw [if_pos hml, e1, hml, Nat.sub_self]
                refine .inr ⟨rfl, _, rfl, fun ad hd => ?_⟩
                cases hd
                refine ⟨rfl, hfz, N, M, hsh, ?_⟩
                have : (a + cap) * ei.size = a * ei.size + cap * ei.size := Nat.add_mul ..
                simp only; omega
              · rw [if_neg hml]
                refine .inl ⟨b, o, bnd mx cap - l', N, M, hp, ?_, by omega, hsh, ?_, hfz⟩
                · simp [addr_add, Nat.add_mul, Nat.add_assoc]
                · refine Nat.le_trans (Nat.add_le_add_left (Nat.mul_le_mul_right _ ?_) _) hM
                  omega
            · obtain ⟨q1, q2, q3, q4, q5, q6, q7, q8⟩ := cutC_ok hcc hc (Nat.le_refl 0)
              refine ⟨_, run_cut hT hi0 he _ 0 0 lo hi mx k1 k2 k3 q1 q2 q3 q4 q5 q6 q7, ?_⟩
              rw [hl', hh'] at *
              have e1 : l' = 0 := by omega
              have e2 : h' = 0 := by omega
              have e3 : bnd mx 0 = 0 := by omega
              subst e1; subst e2
              rw [if_pos e3, e3]
              exact .inr ⟨rfl, ad, rfl, had⟩
      case list st gd full l =>
        simp only at h
        cases hst : okst st ei.size with
        | false => simp [hst] at h
        | true =>
          rw [hst, cond_true] at h
          obtain ⟨rfl, hpos⟩ := okst_of hst
          cases hcc : cutC real lo hi mx (real.len l) with
          | none => simp [hcc] at h
          | some cs' =>
            have key : ∃ f, (∀ c ∈ cs', c = true) ∧ (f = true → full = true ∧ hi = none ∨ bnd hi l.length = bnd mx 0 ∧ mx ≠ none) ∧ v = .list ei.size gd f ((l.drop (bnd lo 0)).take (bnd hi l.length - bnd lo 0)) := by
              cases hi with
              | none =>
                refine ⟨full, ?_, fun x => .inl ⟨x, rfl⟩, ?_⟩
                · cases lo <;> simp only [hcc, cutF] at h <;> simp at h <;> obtain ⟨rfl, _⟩ := h <;> exact hc
                · cases lo <;> simp only [hcc, cutF] at h <;> simp [real] at h <;> obtain ⟨_, rfl⟩ := h <;> simp [bnd, List.take_of_length_le]
              | some h' =>
                cases mx with
                | none =>
                  refine ⟨false, ?_, fun x => by simp at x, ?_⟩
                  · cases lo <;> simp only [hcc, cutF] at h <;> simp at h <;> obtain ⟨rfl, _⟩ := h <;> exact hc
                  · cases lo <;> simp only [hcc, cutF] at h <;> simp [real] at h <;> obtain ⟨_, rfl⟩ := h <;> simp [bnd]
                | some m' =>
                  have heq : h' = m' := by
                    have : (h' == m') = true := hc _ (by cases lo <;> simp only [hcc, cutF] at h <;> simp [real] at h <;> obtain ⟨rfl, _⟩ := h <;> simp)
                    simpa using this
                  refine ⟨true, ?_, fun _ => .inr ⟨by simp [bnd, heq], by simp⟩, ?_⟩
                  · cases lo <;> simp only [hcc, cutF] at h <;> simp at h <;> obtain ⟨rfl, _⟩ := h <;> exact fun c hm => hc c (by simp [hm])
                  · cases lo <;> simp only [hcc, cutF] at h <;> simp [real] at h <;> obtain ⟨_, rfl⟩ := h <;> simp [bnd]
            obtain ⟨f, hc', hff, rfl⟩ := key
            obtain ⟨us, hr, hsl⟩ := hu
            have hsl' := hsl
            obtain ⟨a, n, cap, rfl, hn, hcap, hfull, _⟩ := hsl'
            have hln : l.length = n := by rw [vrs_len hr, hn]
            obtain ⟨q1, q2, q3, q4, q5, q6, q7, q8⟩ := cutC_ok hcc hc' (show real.len l ≤ cap by show l.length ≤ cap; omega)
            have e0 : real.len l = n := hln
            rw [e0] at q6 q7 q8
            rw [hln] at hff ⊢
            refine ⟨_, run_cut hT hi0 he _ n cap lo hi mx k1 k2 k3 q1 q2 q3 q4 q5 q6 q7, _, vrs_take (vrs_drop hr _) _, slR_cut hsl q7 q8 q6 q5 fun hf => ?_⟩
            rcases hff hf with ⟨h1, h2⟩ | ⟨h1, h2⟩
            · subst h2
              have h3 := hfull h1
              cases mx with
              | none => simpa [bnd] using h3
              | some m => exact absurd rfl (q4 (by simp))
            · cases mx with
              | none => exact absurd rfl h2
              | some m => simpa [bnd] using h1.symm
      case mlist st gd full α enc d l =>
        simp only at h
        cases hst : okst st ei.size with
        | false => simp [hst] at h
        | true =>
          rw [hst, cond_true] at h
          obtain ⟨rfl, hpos⟩ := okst_of hst
          cases hcc : cutC real lo hi mx (real.mlen α l) with
          | none => simp [hcc] at h
          | some cs' =>
            have key : ∃ f, (∀ c ∈ cs', c = true) ∧ (f = true → full = true ∧ hi = none ∨ bnd hi l.length = bnd mx 0 ∧ mx ≠ none) ∧ v = .mlist ei.size gd f α enc d ((l.drop (bnd lo 0)).take (bnd hi l.length - bnd lo 0)) := by
              cases hi with
              | none =>
                refine ⟨full, ?_, fun x => .inl ⟨x, rfl⟩, ?_⟩
                · cases lo <;> simp only [hcc, cutF] at h <;> simp at h <;> obtain ⟨rfl, _⟩ := h <;> exact hc
                · cases lo <;> simp only [hcc, cutF] at h <;> simp [real] at h <;> obtain ⟨_, rfl⟩ := h <;> simp [bnd, List.take_of_length_le]
              | some h' =>
                cases mx with
                | none =>
                  refine ⟨false, ?_, fun x => by simp at x, ?_⟩
                  · cases lo <;> simp only [hcc, cutF] at h <;> simp at h <;> obtain ⟨rfl, _⟩ := h <;> exact hc
                  · cases lo <;> simp only [hcc, cutF] at h <;> simp [real] at h <;> obtain ⟨_, rfl⟩ := h <;> simp [bnd]
                | some m' =>
                  have heq : h' = m' := by
                    have : (h' == m') = true := hc _ (by cases lo <;> simp only [hcc, cutF] at h <;> simp [real] at h <;> obtain ⟨rfl, _⟩ := h <;> simp)
                    simpa using this
                  refine ⟨true, ?_, fun _ => .inr ⟨by simp [bnd, heq], by simp⟩, ?_⟩
                  · cases lo <;> simp only [hcc, cutF] at h <;> simp at h <;> obtain ⟨rfl, _⟩ := h <;> exact fun c hm => hc c (by simp [hm])
                  · cases lo <;> simp only [hcc, cutF] at h <;> simp [real] at h <;> obtain ⟨_, rfl⟩ := h <;> simp [bnd]
            obtain ⟨f, hc', hff, rfl⟩ := key
            obtain ⟨us, hlu, hr, hsl⟩ := hu
            have hsl' := hsl
            obtain ⟨a, n, cap, rfl, hn, hcap, hfull, _⟩ := hsl'
            have hln : l.length = n := by omega
            obtain ⟨q1, q2, q3, q4, q5, q6, q7, q8⟩ := cutC_ok hcc hc' (show real.mlen α l ≤ cap by show l.length ≤ cap; omega)
            have e0 : real.mlen α l = n := hln
            rw [e0] at q6 q7 q8
            rw [hln] at hff ⊢
            refine ⟨_, run_cut hT hi0 he _ n cap lo hi mx k1 k2 k3 q1 q2 q3 q4 q5 q6 q7, (us.drop (bnd lo 0)).take (bnd hi n - bnd lo 0), by simp [hlu], fun i hi' => ?_, slR_cut hsl q7 q8 q6 q5 fun hf => ?_⟩
            · have hi2 : bnd lo 0 + i < l.length := by simp at hi'; omega
              have := hr _ hi2
              have hi3 : i < bnd hi n - bnd lo 0 := by simp at hi'; omega
              simpa [List.getD, List.getElem?_take_of_lt hi3] using this
            · rcases hff hf with ⟨h1, h2⟩ | ⟨h1, h2⟩
              · subst h2
                have h3 := hfull h1
                cases mx with
                | none => simpa [bnd] using h3
                | some m => exact absurd rfl (q4 (by simp))
              · cases mx with
                | none => exact absurd rfl h2
                | some m => simpa [bnd] using h1.symm
  · -- strings
    rename_i s b z q hi0
    have hund := hT.und hi0
    split at h
    · rename_i sv
      have hu : u = .string sv := hu
      subst hu
      cases hcc : cutC real lo hi none (real.slen sv) with
      | none => simp [hcc] at h
      | some cs' =>
        simp only [hcc] at h
        have key : cs = cs' ∧ v = .val (.string (sv.extract (bnd lo 0) (bnd hi sv.size))) := by
          cases lo <;> cases hi <;> simp [real] at h <;> obtain ⟨rfl, rfl⟩ := h <;> simp [bnd]
        obtain ⟨rfl, rfl⟩ := key
        obtain ⟨q1, q2, q3, q4, q5, q6, q7, q8⟩ := cutC_ok hcc hc (Nat.le_refl _)
        have e0 : real.slen sv = sv.size := rfl
        rw [e0] at q7 q8
        refine ⟨.string (sv.extract (bnd lo 0) (bnd hi sv.size)), ?_, rfl⟩
        have sb : ∀ (k : IntKind) (x : Int) (y : Nat) (c : BoundsCode) (w : World), 0 ≤ x → x.toNat ≤ y → (Instr.sliceBound (.int k x) y c).run P w = .ok x.toNat w := fun k x y c w hx hy => by
          have : x ≤ y := by omega
          simp [Instr.sliceBound, asIntOf, hx, this]
        cases lo with
        | none =>
          cases hi with
          | none => simp [Instr.sliceAt, run_underlying hund, Instr.slice, Instr.sliceBounds, bnd]
          | some x =>
            have e2 := fun c => sb k2 x sv.size c w (q2 x rfl) (by simpa [bnd] using q8)
            simp [Instr.sliceAt, run_underlying hund, Instr.slice, Instr.sliceBounds, bnd, e2]
        | some y =>
          cases hi with
          | none =>
            have e2 := fun c => sb k1 y sv.size c w (q1 y rfl) (by simpa [bnd] using q7)
            simp [Instr.sliceAt, run_underlying hund, Instr.slice, Instr.sliceBounds, bnd, e2]
          | some x =>
            have e2 := fun c => sb k2 x sv.size c w (q2 x rfl) (by simpa [bnd] using q8)
            have e3 := fun c => sb k1 y x.toNat c w (q1 y rfl) (by simpa [bnd] using q7)
            simp [Instr.sliceAt, run_underlying hund, Instr.slice, Instr.sliceBounds, bnd, e2, e3]
    · simp at h
  · simp at h
end
end Go.Proofs.Ytckkcgkgfkgfdaa.AM
