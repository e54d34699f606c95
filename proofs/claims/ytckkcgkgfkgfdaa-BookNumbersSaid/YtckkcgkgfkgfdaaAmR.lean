/- A function's contract over an abstract memory, out of its code; a contract within a greater memory. Plain laws; no condition. -/
import Derived.Test.YtckkcgkgfkgfdaaAmQ
namespace Go.Proofs.Ytckkcgkgfkgfdaa.AM
universe u
def ares (O : Num) (T : Tab) (s : St) : List ResultVar → Option (List Bool × List AV)
  | [] => some ([], [])
  | .tmp t :: r => match tmget s.tm t, ares O T s r with
    | some v, some (cs, vs) => some (cs, v :: vs)
    | _, _ => none
  | .cell a t :: r => match tmget s.tm a with
    | some p => match aload O T t p s.ob, ares O T s r with
      | some (c1, v), some (cs, vs) => some (c1 ++ cs, v :: vs)
      | _, _ => none
    | none => none
def tupOf : List AV → AV
  | [v] => v
  | vs => .tup vs
/-- What a function's end asks for. -/
def resK (O : Num) (T : Tab) (rs : List ResultVar) (Q : AV → List Ent → Nat → Prop) : Exit → St → Prop
  | .normal, s => match ares O T s rs with | some (cs, vs) => allc cs (Q (tupOf vs) s.ob s.nx) | none => False
  | .ret, s => match ares O T s rs with | some (cs, vs) => allc cs (Q (tupOf vs) s.ob s.nx) | none => False
  | _, _ => False
def argT : Nat → List AV → List (Nat × AV)
  | _, [] => []
  | k, v :: r => (k, v) :: argT (k + 1) r
section
variable {P : Program} {T : Tab} {N : Nat} {nm : List (Nat × Nat)} {pl : List Plan}
theorem argT_get : ∀ {vs : List AV} {k t : Nat} {v : AV}, tmget (argT k vs) t = some v → k ≤ t ∧ vs[t - k]? = some v
  | [], k, t, v, h => by simp [argT, tmget] at h
  | x :: r, k, t, v, h => by
    rw [argT, tmget_cons] at h
    by_cases e : k = t
    · subst e
      rw [if_pos rfl] at h
      exact ⟨Nat.le_refl _, by simpa using h⟩
    · rw [if_neg e] at h
      obtain ⟨h1, h2⟩ := argT_get h
      refine ⟨by omega, ?_⟩
      rw [show t - k = (t - (k + 1)) + 1 by omega]
      simpa using h2
def resG (a : Act) : ResultVar → Sem Value
  | .tmp t => pure (a.tmps.getD t undef)
  | .cell p t => do loadVar t (← asAddr (a.tmps.getD p undef))
theorem ares_ok (hT : TabOk P T) {φ : Phi} {H : Nat → Prop} {F : Fr} {s : St} {a : Act} {w : World} (hs : SRel N φ H F s a w) {g : ResultVar → Sem Value} (g1 : ∀ t, g (.tmp t) = pure (a.tmps.getD t undef)) (g2 : ∀ p t, g (.cell p t) = do loadVar t (← asAddr (a.tmps.getD p undef))) : ∀ {rs : List ResultVar} {cs : List Bool} {vs : List AV}, ares real T s rs = some (cs, vs) → (∀ c ∈ cs, c = true) →
    ∃ us, (rs.mapM g).run P w = .ok us w ∧ VRs φ H w vs us
  | [], cs, vs, h, hc => by
    simp [ares] at h
    obtain ⟨rfl, rfl⟩ := h
    exact ⟨[], by simp, rfl⟩
  | .tmp t :: r, cs, vs, h, hc => by
    rw [ares] at h
    cases h1 : tmget s.tm t with
    | none => simp [h1] at h
    | some v =>
      cases h2 : ares real T s r with
      | none => simp [h1, h2] at h
      | some q =>
        obtain ⟨c2, v2⟩ := q
        simp [h1, h2] at h
        obtain ⟨rfl, rfl⟩ := h
        obtain ⟨us, hus, hr⟩ := ares_ok hT hs g1 g2 h2 hc
        obtain ⟨u, hu, hvr⟩ := hs.tm t v h1
        refine ⟨u :: us, ?_, u, us, rfl, hvr, hr⟩
        have : a.tmps.getD t undef = u := by simp [hu]
        simp only [List.mapM_cons, Sem.run_bind, g1, Sem.run_pure, Result.andThen_ok, this, hus]
  | .cell p t :: r, cs, vs, h, hc => by
    rw [ares] at h
    cases h1 : tmget s.tm p with
    | none => simp [h1] at h
    | some v =>
      simp only [h1] at h
      cases h3 : aload real T t v s.ob with
      | none => simp [h3] at h
      | some q3 =>
        obtain ⟨c3, v3⟩ := q3
        cases h2 : ares real T s r with
        | none => simp [h3, h2] at h
        | some q =>
          obtain ⟨c2, v2⟩ := q
          simp [h3, h2] at h
          obtain ⟨rfl, rfl⟩ := h
          obtain ⟨us, hus, hr⟩ := ares_ok hT hs g1 g2 h2 (fun c hm => hc c (by simp [hm]))
          obtain ⟨u, hu, hvr⟩ := hs.tm p v h1
          obtain ⟨x, hx, hxr⟩ := aload_ok hT hs.rel hvr h3 (fun c hm => hc c (by simp [hm]))
          refine ⟨x :: us, ?_, x, us, rfl, hxr, hr⟩
          have e : a.tmps.getD p undef = u := by simp [hu]
          have hptr : ∃ ad, u = .pointer (some ad) := by
            have h4 := h3
            unfold aload at h4
            cases hi : tget T t with
            | none => simp [hi] at h4
            | some i =>
              simp only [hi] at h4
              have hp : isPtr v = true := by cases v <;> first | rfl | (simp at h4; done)
              exact isPtr_of hp hvr
          obtain ⟨ad, rfl⟩ := hptr
          have hx' : (loadVar t ad).run P w = .ok x w := by simpa [Instr.loadAt, Instr.sureAddr] using hx
          simp only [List.mapM_cons, Sem.run_bind, g2, e, asAddr, Sem.run_pure, Result.andThen_ok, hx', hus]
/-- The law: a function's contract. -/
theorem acalls_of (hT : TabOk P T) (hm : P.follows .mixedOrders = true) {f : FuncId} {fn : Func} {c : Code} (hf : P.funcs[f]? = some fn) (hb : fn.body = some c) (hname : (fn.name == "runtime.NumGoroutine") = false) (hpl : plansOk pl c = true) {args : List AV} {ob : List Ent} {nx : Nat}
    {Q : AV → List Ent → Nat → Prop} (h : awp P real T fn.ntmps nm pl c (resK real T fn.results.toList Q) ⟨argT 0 args, ob, nx⟩) : ACalls P f args ob nx Q := by
  refine ⟨fun φ H F w vs hR hvs => ?_⟩
  refine .inl ⟨⟨fn, hf, by rw [hb]; rfl, hname⟩, calls_of_wp hf hb ?_⟩
  have hs : SRel fn.ntmps φ H F ⟨argT 0 args, ob, nx⟩ { tmps := vs.toArray ++ Array.replicate (fn.ntmps - vs.toArray.size) undef, defers := [] } w := by
    refine ⟨hR, rfl, by simp; omega, fun t v hv => ?_⟩
    obtain ⟨_, h2⟩ := argT_get hv
    rw [Nat.sub_zero] at h2
    have hlt := (List.getElem?_eq_some_iff.1 h2).1
    obtain ⟨u, hu, hr⟩ := (vrs_get hvs).2 t hlt
    have he : args[t] = v := (List.getElem?_eq_some_iff.1 h2).2
    rw [he] at hr
    refine ⟨u, ?_, hr⟩
    have hl : t < vs.toArray.size := by
      have := (List.getElem?_eq_some_iff.1 hu).1
      simpa using this
    rw [Array.getElem?_append_left hl]
    simpa using hu
  refine wp_mono (awp_ok hT hm c hpl _ _ h φ H F _ w hs) fun e a' w' hp => ?_
  have fin : ∀ s' φ' H', (match ares real T s' fn.results.toList with | some (cs, vs) => allc cs (Q (tupOf vs) s'.ob s'.nx) | none => False) → Ext φ H F nx w φ' H' s'.nx w' → SRel fn.ntmps φ' H' F s' a' w' →
      a'.defers = [] ∧ ∃ v, (results fn a'.tmps).run P w' = .ok v w' ∧ CPost φ H F nx w Q (.returned v) w' := fun s' φ' H' hq hext hs' => by
    cases hr : ares real T s' fn.results.toList with
    | none => simp [hr] at hq
    | some q =>
      obtain ⟨cs, rs⟩ := q
      simp only [hr] at hq
      obtain ⟨hc, hQ⟩ := allc_iff.1 hq
      refine ⟨hs'.defs, ?_⟩
      unfold results
      obtain ⟨us, hus, hvr⟩ := ares_ok hT hs' (g := resG a') (fun _ => rfl) (fun _ _ => rfl) hr hc
      rw [Array.mapM_eq_mapM_toList]
      have hmap : ∀ g : ResultVar → Sem Value, (∀ t, g (.tmp t) = pure (a'.tmps.getD t undef)) → (∀ p t, g (.cell p t) = do loadVar t (← asAddr (a'.tmps.getD p undef))) → (fn.results.toList.mapM g).run P w' = .ok us w' := fun g g1 g2 => by
        have : g = resG a' := by
          funext x
          cases x
          · exact g1 _
          · exact g2 _ _
        rw [this]
        exact hus
      have hlen := vrs_len hvr
      have hm2 : ∀ g : ResultVar → Sem Value, (∀ t, g (.tmp t) = pure (a'.tmps.getD t undef)) → (∀ p t, g (.cell p t) = do loadVar t (← asAddr (a'.tmps.getD p undef))) → (List.toArray <$> fn.results.toList.mapM g : Sem (Array Value)).run P w' = .ok us.toArray w' := fun g g1 g2 => by
        rw [Sem.run_map, hmap g g1 g2]
        rfl
      by_cases h1 : us.length = 1
      · obtain ⟨u, rfl⟩ : ∃ u, us = [u] := by
          match us, h1 with
          | [u], _ => exact ⟨u, rfl⟩
        obtain ⟨v, rfl⟩ : ∃ v, rs = [v] := by
          match rs, hlen with
          | [v], _ => exact ⟨v, rfl⟩
        obtain ⟨x, _, e, hx, _⟩ := hvr
        cases e
        refine ⟨u, ?_, v, s'.ob, s'.nx, φ', H', hQ, hext, hs'.rel, hx⟩
        rw [Sem.run_bind, hm2 _ (fun _ => rfl) (fun _ _ => rfl)]
        simp
      · refine ⟨.tuple us.toArray, ?_, tupOf rs, s'.ob, s'.nx, φ', H', hQ, hext, hs'.rel, ?_⟩
        · rw [Sem.run_bind, hm2 _ (fun _ => rfl) (fun _ _ => rfl)]
          simp [h1]
        · have : tupOf rs = .tup rs := by
            match rs, hlen with
            | [], _ => rfl
            | [v], hl => simp at hl; omega
            | _ :: _ :: _, _ => rfl
          rw [this]
          exact ⟨us, rfl, hvr⟩
  cases e with
  | panic => exact hp.elim
  | outgrown => exact hp.elim
  | normal => obtain ⟨s', φ', H', hq, h1, h2⟩ := hp; exact fin s' φ' H' hq h1 h2
  | ret => obtain ⟨s', φ', H', hq, h1, h2⟩ := hp; exact fin s' φ' H' hq h1 h2
  | exit i => obtain ⟨s', φ', H', hq, _⟩ := hp; exact hq.elim
  | goto i => obtain ⟨s', φ', H', hq, _⟩ := hp; exact hq.elim
theorem ACalls.mono {f : FuncId} {args : List AV} {ob : List Ent} {nx : Nat} {Q Q' : AV → List Ent → Nat → Prop} (h : ACalls P f args ob nx Q) (hq : ∀ r ob' nx', Q r ob' nx' → Q' r ob' nx') : ACalls P f args ob nx Q' := ⟨fun φ H F w vs hR hvs => by
  have go : ∀ e w', CPost φ H F nx w Q e w' → CPost φ H F nx w Q' e w' := fun e w' k => by
    cases e with
    | panicked => exact k
    | outgrown => exact k
    | returned v => obtain ⟨r, ob', nx', p, q, h1, h2⟩ := k; exact ⟨r, ob', nx', p, q, hq _ _ _ h1, h2⟩
  rcases h.go φ H F w vs hR hvs with ⟨h1, h2⟩ | ⟨v, h1, h2⟩
  · exact .inl ⟨h1, h2.mono go⟩
  · exact .inr ⟨v, h1, go _ _ h2⟩⟩
/-- The frame: a contract over some objects, among others. -/
theorem ACalls.frame {f : FuncId} {args : List AV} {ob : List Ent} {nx : Nat} {Q : AV → List Ent → Nat → Prop} (is : List Nat) (h : ACalls P f args (keepO ob is) nx Q) {Q' : AV → List Ent → Nat → Prop} (hq : ∀ r ob1 nx', Q r ob1 nx' → Q' r (ob1 ++ dropO ob is) nx') : ACalls P f args ob nx Q' := by
  refine ⟨fun φ H F w vs hR hvs => ?_⟩
  have hR0 := hR.perm (keepO_perm is ob)
  let F' : Fr := ⟨fun b => F.blk b ∨ ∃ e ∈ dropO ob is, ∃ o, φ e.ix e.bs = some (b, o), fun i b => F.nam i b ∨ ∃ e ∈ dropO ob is, e.ix = i ∧ e.bs = b⟩
  have hdm : ∀ e ∈ dropO ob is, e ∈ ob := fun e he => (keepO_perm is ob).subset (List.mem_append.2 (.inr he))
  have hkm : ∀ e ∈ keepO ob is, e ∈ ob := fun e he => (keepO_perm is ob).subset (List.mem_append.2 (.inl he))
  have hinj := List.pairwise_append.1 hR0.inj
  have hnd := List.pairwise_append.1 hR0.nd
  have hR1 : Rel φ H F' (keepO ob is) nx w := by
    refine ⟨hR.lt, hR.hlt, fun b hb => ?_, fun b h1 h2 => ?_, fun e he b o hp => ?_, fun e he => hR.nb e (hkm e he), hnd.1, hinj.1, fun i b hn => ?_, fun e he hn => ?_⟩
    · rcases hb with hb | ⟨e, he, o, hp⟩
      · exact hR.flt b hb
      · exact (hR.lt _ _ _ _ hp).1
    · rcases h2 with hb | ⟨e, he, o, hp⟩
      · exact hR.hf b h1 hb
      · exact (hR.obs e (hdm e he) b o hp).1 h1
    · obtain ⟨q1, q2, q3⟩ := hR.obs e (hkm e he) b o hp
      refine ⟨q1, fun hb => ?_, q3⟩
      rcases hb with hb | ⟨e', he', o', hp'⟩
      · exact q2 hb
      · exact hinj.2.2 e he e' he' b o b o' hp hp' rfl
    · rcases hn with hn | ⟨e, he, rfl, rfl⟩
      · exact hR.fnm.1 i b hn
      · exact hR.nb e (hdm e he)
    · rcases hn with hn | ⟨e', he', h1, h2⟩
      · exact hR.fnm.2 e (hkm e he) hn
      · rcases hnd.2.2 e he e' he' with h | h
        · exact h h1.symm
        · exact h h2.symm
  have go : ∀ e w', CPost φ H F' nx w Q e w' → CPost φ H F nx w Q' e w' := fun e w' k => by
    cases e with
    | panicked => exact k
    | outgrown => exact k
    | returned v =>
      obtain ⟨r, ob1, nx', φ', H', h1, h2, h3, h4⟩ := k
      refine ⟨r, ob1 ++ dropO ob is, nx', φ', H', hq _ _ _ h1, ⟨h2.up, h2.nxle, h2.old, fun b hb => h2.frm b (.inl hb), h2.size, h2.os, h2.tape, h2.output⟩, ?_, h4⟩
      have hold : ∀ e ∈ dropO ob is, φ' e.ix e.bs = φ e.ix e.bs := fun e he => h2.old _ _ (hR.nb e (hdm e he))
      refine ⟨h3.lt, h3.hlt, fun b hb => h3.flt b (.inl hb), fun b g1 g2 => h3.hf b g1 (.inl g2), fun e he b o hp => ?_, fun e he => ?_, List.pairwise_append.2 ⟨h3.nd, hnd.2.1, fun e he e' he' => ?_⟩,
        List.pairwise_append.2 ⟨h3.inj, hinj.2.1.imp_of_mem fun {x y} hx hy hxy b o b' o' g1 g2 => hxy b o b' o' (by rw [← hold x hx]; exact g1) (by rw [← hold y hy]; exact g2), fun e he e' he' b o b' o' g1 g2 hbb => ?_⟩, fun i b hn => h3.fnm.1 i b (.inl hn), fun e he hn => ?_⟩
      · rcases List.mem_append.1 he with he | he
        · obtain ⟨q1, q2, q3⟩ := h3.obs e he b o hp
          exact ⟨q1, fun hb => q2 (.inl hb), q3⟩
        · rw [hold e he] at hp
          obtain ⟨q1, q2, q3⟩ := hR.obs e (hdm e he) b o hp
          have hFb : F'.blk b := .inr ⟨e, he, o, hp⟩
          exact ⟨fun hb => h3.hf b hb hFb, q2, q3.up h2.up (h2.frm b hFb)⟩
      · rcases List.mem_append.1 he with he | he
        · exact h3.nb e he
        · exact Nat.lt_of_lt_of_le (hR.nb e (hdm e he)) h2.nxle
      · by_cases g1 : e.ix = e'.ix
        · refine .inr fun g2 => h3.fnm.2 e he (.inr ⟨e', he', g1.symm, g2.symm⟩)
        · exact .inl g1
      · subst hbb
        rw [hold e' he'] at g2
        exact (h3.obs e he b o g1).2.1 (.inr ⟨e', he', o', g2⟩)
      · rcases List.mem_append.1 he with he | he
        · exact h3.fnm.2 e he (.inl hn)
        · exact hR.fnm.2 e (hdm e he) hn
  rcases h.go φ H F' w vs hR1 hvs with ⟨h1, h2⟩ | ⟨v, h1, h2⟩
  · exact .inl ⟨h1, h2.mono go⟩
  · exact .inr ⟨v, h1, go _ _ h2⟩
end
end Go.Proofs.Ytckkcgkgfkgfdaa.AM
