/- Functions over an abstract memory: what is shown of their code holds of their calls. Plain laws; no condition. -/
import Derived.Test.YtckkcgkgfkgfdaaAmP
set_option linter.unusedSimpArgs false
namespace Go.Proofs.Ytckkcgkgfkgfdaa.AM
open Go.Proofs.Ytckkcgkgfkgfdaa.Par (reach reach_ready depB depB_of backB wpAny_inv permB set_upd getD_tf)
universe u
section
variable {P : Program} {T : Tab} {N : Nat} {nm : List (Nat × Nat)} {pl : List Plan}
theorem aseqD_ok (hT : TabOk P T) (hm : P.follows .mixedOrders = true) {ops : Array Oper} {p : Plan} (hpl : planOk ops p = true) {id : Nat} {s : St} {Q : Exit → St → Prop} (h : aseqD P real T N nm ops.toList p p.order [] s (Q .normal))
    {φ : Phi} {H : Nat → Prop} {F : Fr} {a : Act} {w : World} (hs : SRel N φ H F s a w) : (Code.region id ops true).wp P (Post N φ H F s.nx w Q) a w := by
  simp only [planOk, Bool.and_eq_true] at hpl
  obtain ⟨_, hback, hperm, hok⟩ := hpl
  have hp := okD_pair hok
  simp only [permB, Bool.and_eq_true] at hperm
  have hin : ∀ i, i < ops.size → i ∈ p.order := fun i hi => by
    have := List.all_eq_true.1 hperm.1.2 i (List.mem_range.2 hi)
    simpa using this
  have hlt : ∀ i ∈ p.order, i < ops.size := fun i hi => of_decide_eq_true (List.all_eq_true.1 hperm.2 i hi)
  have hz : ∀ i, (Array.replicate ops.size false).getD i false = false := fun i => by
    rcases Nat.lt_or_ge i ops.size with h | h
    · simp [h]
    · simp [h]
  refine wp_region_any hm ?_
  refine wpAny_inv (fun listed a' w' => listed.size = ops.size ∧ (∀ i j, depB .any ops i j = true → listed.getD i false = true → listed.getD j false = true) ∧
    ∃ φ' H' s' D rest f, Inv P T N nm ops p (Q .normal) φ H F s.nx w (fun j => !listed.getD j false) φ' H' s' D rest f a' w') hback (fun _ _ _ h => h.1) ?_ ?_ _ _ _ _ (by rw [Array.toList_replicate]; exact Nat.le_trans List.countP_le_length (by rw [List.length_replicate]; exact Nat.le_refl _)) ?_
  · rintro listed a' w' ⟨hsz, hcl, φ', H', s', D, rest, f, hI⟩ i hi hun hall
    have his : i < listed.size := by rw [hsz]; exact hi
    have hunf : listed.getD i false = false := by rw [getD_tf his false true]; exact hun
    have hd : ∀ j, depB .any ops i j = true → listed.getD j false = true := fun j hj => by
      unfold depB at hj
      cases ho : ops[i]? with
      | none => rw [ho] at hj; cases hj
      | some o =>
        rw [ho] at hj
        obtain ⟨e, he, h3⟩ := Array.any_eq_true'.1 hj
        simp only [Bool.and_eq_true, beq_iff_eq] at h3
        rw [← h3.2]
        exact hall o ho e he h3.1
    have hu' : (fun j => !(listed.setIfInBounds i true).getD j false) = fun j => (!listed.getD j false) && !eqb j i := by
      funext j
      have h5 := congrFun (set_upd (listed := listed) his) j
      have h5 : (listed.setIfInBounds i true).getD j false = Par.upd (fun j => listed.getD j false) i j := h5
      rw [h5]
      unfold Par.upd
      have h6 : Nat.beq j i = eqb j i := by
        by_cases e : j = i
        · subst e; simp
        · rw [Par.beq_no e, (eqb_not j i).2 e]
      show (!(Nat.beq j i || listed.getD j false)) = ((!listed.getD j false) && !eqb j i)
      rw [h6]
      cases eqb j i <;> cases listed.getD j false <;> rfl
    refine wpOp_mono (fun a2 w2 h3 => ⟨by rw [Array.size_setIfInBounds]; exact hsz, fun k j hkj hkl => ?_, h3⟩)
      (hI.step hT hp (un' := fun j => !(listed.setIfInBounds i true).getD j false) (hin i hi) (by simp only [hunf]; rfl) hu' (fun k j hk hc => by
        have hc : listed.getD k false = true := by simpa using hc
        simp [hcl k j hk hc]) (fun j hj => by simp [hd j hj]))
    by_cases e : i = k
    · subst e
      exact getD_set_true (hd j hkj)
    · rw [getD_set_ne false e] at hkl
      exact getD_set_true (hcl k j hkj hkl)
  · rintro listed a' w' ⟨hsz, _, φ', H', s', D, rest, f, hI⟩ hall
    have hno : ∀ i ∈ p.order, listed.getD i false = true := fun i hi => by
      rw [getD_tf (by rw [hsz]; exact hlt i hi) false true]; exact hall i (hlt i hi)
    have hrest : rest = [] := by
      cases rest with
      | nil => rfl
      | cons i r =>
        have h1 := hI.rst i List.mem_cons_self
        have h2 := hno i (hI.ord.subset (by simp))
        simp only [h2] at h1
        cases h1
    subst hrest
    have hfil : D.reverse.filter (fun q => !listed.getD q.i false) = [] := List.filter_eq_nil_iff.2 fun q hq => by
      have h2 := hno q.i (hI.ord.subset (by simp only [List.append_nil]; exact List.mem_map.2 ⟨q, hq, rfl⟩))
      simp [h2]
    have hr := hI.runs
    rw [hfil] at hr
    have hr : f = tmget s'.tm := hr
    have hseq := hI.seq
    rw [aseqD] at hseq
    exact ⟨s', φ', H', hseq, hI.ext, hI.rel, hI.defs, hI.sz, by rw [← hr]; exact hI.tm⟩
  · refine ⟨by simp, (fun i j _ h => by rw [hz] at h; cases h), φ, H, s, [], p.order, tmget s.tm, ?_⟩
    have hxd := ext_drew φ H F s.nx w
    refine ⟨hxd, hs.rel.drew, hs.defs, hs.sz, fun t v hv => ?_, by simp, by simp, fun i hi _ => .inr hi, fun i _ => by simp only [hz]; rfl, rfl, by simp, by simp, List.Pairwise.nil, h⟩
    obtain ⟨u, hu, hr⟩ := hs.tm t v hv
    exact ⟨u, hu, hxd.up.vr _ _ hr⟩
/-- The plans of a code's regions hold. -/
def plansOk (pl : List Plan) : Code → Bool
  | .region id ops d => bif d then match plget pl id with | some p => planOk ops p | none => true else true
  | .seq a b => plansOk pl a && plansOk pl b
  | .cond _ x y => plansOk pl x && plansOk pl y
  | .block _ c => plansOk pl c
  | .loop c => plansOk pl c
  | _ => true
theorem AW.mono {c : Code} {s : St} {Q Q' : Exit → St → Prop} (h : AW P N c s Q) (hq : ∀ e s, Q e s → Q' e s) : AW P N c s Q' := fun φ H F a w hs => wp_mono (h φ H F a w hs) fun e a w hp => by
  cases e with
  | panic => exact hp
  | outgrown => exact hp
  | normal => obtain ⟨s', p, q, h1, h2⟩ := hp; exact ⟨s', p, q, hq _ _ h1, h2⟩
  | exit i => obtain ⟨s', p, q, h1, h2⟩ := hp; exact ⟨s', p, q, hq _ _ h1, h2⟩
  | goto i => obtain ⟨s', p, q, h1, h2⟩ := hp; exact ⟨s', p, q, hq _ _ h1, h2⟩
  | ret => obtain ⟨s', p, q, h1, h2⟩ := hp; exact ⟨s', p, q, hq _ _ h1, h2⟩
theorem unlit_vr {φ : Phi} {H : Nat → Prop} {w : World} {v : AV} {u : Value} (h : VR φ H w v u) : VR φ H w (unlit v) u := by
  cases v <;> exact h
theorem keepT_get : ∀ {ts : List Nat} {tm : List (Nat × AV)} {t : Nat} {v : AV}, tmget (keepT tm ts) t = some v → ∃ v0, tmget tm t = some v0 ∧ v = unlit v0
  | [], tm, t, v, h => by simp [keepT, tmget] at h
  | k :: ts, tm, t, v, h => by
    rw [keepT] at h
    cases hk : tmget tm k with
    | none => rw [hk] at h; exact keepT_get h
    | some u =>
      rw [hk] at h
      simp only [tmget_cons] at h
      by_cases e : k = t
      · subst e
        rw [if_pos rfl] at h
        exact ⟨u, hk, (Option.some.inj h).symm⟩
      · rw [if_neg e] at h
        exact keepT_get h
/-- What is picked, and what is left. -/
def dropO : List Ent → List Nat → List Ent
  | ob, [] => ob
  | ob, i :: r => match find ob i with
    | some _ => dropO (delOb ob i) r
    | none => dropO ob r
theorem keepO_perm : ∀ (is : List Nat) (ob : List Ent), (keepO ob is ++ dropO ob is).Perm ob
  | [], ob => by simp [keepO, dropO]
  | i :: is, ob => by
    rw [keepO, dropO]
    cases hf : find ob i with
    | none => exact keepO_perm is ob
    | some e =>
      obtain ⟨l, r, h1, _, h3⟩ := find_split hf
      simp only
      refine List.Perm.trans ((keepO_perm is (delOb ob i)).cons e) ?_
      rw [h3, h1]
      exact (List.perm_middle).symm
theorem Rel.perm {φ : Phi} {H : Nat → Prop} {F : Fr} {ob ob' : List Ent} {nx : Nat} {w : World} (hR : Rel φ H F ob nx w) (h : ob'.Perm ob) : Rel φ H F ob' nx w :=
  ⟨hR.lt, hR.hlt, hR.flt, hR.hf, fun e he => hR.obs e (h.subset he), fun e he => hR.nb e (h.subset he), (h.pairwise_iff (fun {_ _} hxy => hxy.imp Ne.symm Ne.symm)).2 hR.nd,
    (h.pairwise_iff (fun {_ _} hxy b o b' o' h1 h2 e => hxy b' o' b o h2 h1 e.symm)).2 hR.inj, hR.fnm.1, fun e he => hR.fnm.2 e (h.subset he)⟩
theorem SRel.keep {φ : Phi} {H : Nat → Prop} {F : Fr} {s : St} {a : Act} {w : World} (h : SRel N φ H F s a w) (ts is : List Nat) : SRel N φ H F (s.keep ts is) a w :=
  ⟨((h.rel.perm (keepO_perm is s.ob))).sub (List.sublist_append_left _ _), h.defs, h.sz, fun t v hv => by
    obtain ⟨v0, h1, rfl⟩ := keepT_get hv
    obtain ⟨u, hu, hr⟩ := h.tm t v0 h1
    exact ⟨u, hu, unlit_vr hr⟩⟩
theorem aloop_ok {c : Code} {Q : Exit → St → Prop} {s : St} (ih : ∀ (Q : Exit → St → Prop) (s : St), awp P real T N nm pl c Q s → AW P N c s Q) (h : loopP (awp P real T N nm pl c) Q s) : AW P N (.loop c) s Q := by
  obtain ⟨ts, is, I, μ, ⟨s0, f0, h0⟩, hr⟩ := h
  intro φ H F a w hs
  obtain ⟨p0, q0, e0, r0⟩ := f0 N φ H F a w (hs.keep ts is)
  let J : Nat → Act → World → Prop := fun n a' w' => ∃ s' φ' H', I s' ∧ μ s' = n ∧ Ext φ H F s.nx w φ' H' s'.nx w' ∧ SRel N φ' H' F s' a' w'
  have hm : ∀ a' w', (∃ n, J n a' w') → ∃ n, J n a' w' ∧ ∀ m, J m a' w' → n ≤ m := fun a' w' ⟨n, hn⟩ => by
    induction n using Nat.strongRecOn with
    | _ n ih =>
      by_cases hx : ∃ m, m < n ∧ J m a' w'
      · obtain ⟨m, hm, hj⟩ := hx
        exact ih m hm hj
      · exact ⟨n, hn, fun m hj => Nat.le_of_not_lt fun hlt => hx ⟨m, hlt, hj⟩⟩
  let M : Act → World → Nat := fun a' w' => open Classical in if h : ∃ n, J n a' w' then (hm a' w' h).choose else 0
  have hM : ∀ a' w', (∃ n, J n a' w') → J (M a' w') a' w' ∧ ∀ m, J m a' w' → M a' w' ≤ m := fun a' w' h => by
    have : M a' w' = (hm a' w' h).choose := by simp only [M]; rw [dif_pos h]
    rw [this]
    exact (hm a' w' h).choose_spec
  refine wp_loop (fun a' w' => ∃ n, J n a' w') M ⟨_, s0, p0, q0, h0, rfl, e0, r0⟩ fun a' w' hI => ?_
  obtain ⟨⟨s', φ', H', hi, hmu, hext, hs'⟩, _⟩ := hM a' w' hI
  have hb := ih _ s' (hr s' hi) φ' H' F a' w' hs'
  refine wp_mono hb fun e a2 w2 hp => ?_
  cases e with
  | panic => exact hp
  | outgrown => exact hp
  | normal =>
    obtain ⟨s2, p, q, ⟨s3, f3, h1, h2⟩, h3, h4⟩ := hp
    obtain ⟨p3, q3, e3, r3⟩ := f3 N p q F a2 w2 (h4.keep ts is)
    have hj : J (μ s3) a2 w2 := ⟨s3, p3, q3, h1, rfl, (hext.trans h3).trans e3, r3⟩
    have := (hM a2 w2 ⟨_, hj⟩).2 _ hj
    exact ⟨⟨_, hj⟩, by omega⟩
  | exit i => obtain ⟨s2, p, q, h1, h2, h3⟩ := hp; exact ⟨s2, p, q, h1, hext.trans h2, h3⟩
  | goto i => obtain ⟨s2, p, q, h1, h2, h3⟩ := hp; exact ⟨s2, p, q, h1, hext.trans h2, h3⟩
  | ret => obtain ⟨s2, p, q, h1, h2, h3⟩ := hp; exact ⟨s2, p, q, h1, hext.trans h2, h3⟩
def cutQ (pl : List Plan) (id : Nat) (Q : Exit → St → Prop) : Exit → St → Prop
  | .normal, s => cutK pl id (Q .normal) s
  | e, s => Q e s
theorem post_cut {pl : List Plan} {id : Nat} {φ : Phi} {H : Nat → Prop} {F : Fr} {nx : Nat} {w : World} {Q : Exit → St → Prop} : ∀ e a v, Post N φ H F nx w (cutQ pl id Q) e a v → Post N φ H F nx w Q e a v := fun e a v k => by
  cases e with
  | panic => exact k
  | outgrown => exact k
  | normal =>
    obtain ⟨s, p, q, h1, h2, h3⟩ := k
    have h1 : cutK pl id (Q .normal) s := h1
    unfold cutK at h1
    split at h1
    · obtain ⟨s2, f2, h4⟩ := h1
      obtain ⟨p2, q2, e2, r2⟩ := f2 N p q F a v h3
      exact ⟨s2, p2, q2, h4, h2.trans e2, r2⟩
    · exact ⟨s, p, q, h1, h2, h3⟩
  | exit i => exact k
  | goto i => exact k
  | ret => exact k
/-- The law: what is shown of code by awp holds in the world. -/
theorem awp_ok (hT : TabOk P T) (hm : P.follows .mixedOrders = true) : ∀ (c : Code), plansOk pl c = true → ∀ (Q : Exit → St → Prop) (s : St), awp P real T N nm pl c Q s → AW P N c s Q
  | .skip, _, Q, s, h => fun φ H F a w hs => wp_skip ⟨s, φ, H, h, Ext.refl _ _ _ _ _, hs⟩
  | .label l, _, Q, s, h => fun φ H F a w hs => wp_label ⟨s, φ, H, h, Ext.refl _ _ _ _ _, hs⟩
  | .exit i, _, Q, s, h => fun φ H F a w hs => wp_exit ⟨s, φ, H, h, Ext.refl _ _ _ _ _, hs⟩
  | .ret, _, Q, s, h => fun φ H F a w hs => wp_ret ⟨s, φ, H, h, Ext.refl _ _ _ _ _, hs⟩
  | .region id ops d, hp, Q, s, h => fun φ H F a w hs => by
    rw [plansOk] at hp
    cases d with
    | false =>
      simp only [awp] at h
      have := aseq0_ok (Q := cutQ pl id Q) hT ops.toList 0 s (by simp) h φ H F a w hs
      refine wp_mono (wp_region ?_) (post_cut (pl := pl) (id := id))
      rw [List.range_eq_range']
      simpa using this
    | true =>
      simp only [awp] at h
      simp only [cond_true] at hp
      cases hg : plget pl id with
      | none => simp [hg] at h
      | some p =>
        simp only [hg] at h hp
        exact wp_mono (aseqD_ok (Q := cutQ pl id Q) hT hm hp h hs) (post_cut (pl := pl) (id := id))
  | .seq x y, hp, Q, s, h => fun φ H F a w hs => by
    rw [awp] at h
    simp only [plansOk, Bool.and_eq_true] at hp
    refine wp_seq (wp_mono (awp_ok hT hm x hp.1 _ s h φ H F a w hs) fun e a2 w2 k => ?_)
    cases e with
    | panic => exact k
    | outgrown => exact k
    | normal =>
      obtain ⟨s2, p, q, h1, h2, h3⟩ := k
      exact wp_mono (awp_ok hT hm y hp.2 Q s2 h1 p q F a2 w2 h3) (Post.of_ext h2)
    | exit i => exact k
    | goto i => exact k
    | ret => exact k
  | .cond c x y, hp, Q, s, h => fun φ H F a w hs => by
    rw [awp] at h
    simp only [plansOk, Bool.and_eq_true] at hp
    cases hc : aopd s.tm c with
    | none => simp [hc] at h
    | some v =>
      cases v <;> simp [hc] at h
      rename_i b
      have hv : a.eval c = .bool b := aopd_ok hs.tm hc
      refine wp_cond hv ?_
      cases b with
      | true => exact awp_ok hT hm x hp.1 Q s h φ H F a w hs
      | false => exact awp_ok hT hm y hp.2 Q s h φ H F a w hs
  | .block id c, hp, Q, s, h => fun φ H F a w hs => by
    rw [awp] at h
    refine wp_block (wp_mono (awp_ok hT hm c hp _ s h φ H F a w hs) fun e a2 w2 k => ?_)
    cases e with
    | panic => exact k
    | outgrown => exact k
    | normal => exact k
    | exit i =>
      obtain ⟨s2, p, q, h1, h2, h3⟩ := k
      have h1 : (match eqb i id with | true => Q .normal s2 | false => Q (.exit i) s2) := h1
      simp only [Exit.inBlock]
      by_cases e : i = id
      · subst e
        rw [if_pos rfl]
        simp at h1
        exact ⟨s2, p, q, h1, h2, h3⟩
      · rw [if_neg e]
        have : eqb i id = false := by
          cases h2 : eqb i id with
          | false => rfl
          | true => exact (e (eqb_eq h2)).elim
        rw [this] at h1
        dsimp only at h1
        exact ⟨s2, p, q, h1, h2, h3⟩
    | goto i => exact k
    | ret => exact k
  | .loop c, hp, Q, s, h => by
    rw [awp] at h
    exact aloop_ok (fun Q s => awp_ok hT hm c hp Q s) h
  | .goto _, _, _, _, h => by simp [awp] at h
  | .rangeFunc .., _, _, _, h => by simp [awp] at h
  | .scope _, _, _, _, h => by simp [awp] at h
  | .refuse _, _, _, _, h => by simp [awp] at h
end
end Go.Proofs.Ytckkcgkgfkgfdaa.AM
