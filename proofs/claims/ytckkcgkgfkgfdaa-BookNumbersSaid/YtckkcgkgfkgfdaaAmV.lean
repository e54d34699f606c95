/- A contract's end: a row of one's own becomes a held one; values told in other words; objects forgotten. Plain laws; no condition. -/
import Derived.Test.YtckkcgkgfkgfdaaAmS
namespace Go.Proofs.Ytckkcgkgfkgfdaa.AM
universe u
/-- A part of a row's content, as a held row. -/
def cutSeq (O : Num) (c : AV) (st i n : Nat) : AV :=
  match c with
  | .list _ _ _ l => .list st true false (O.tak n (O.drp i l))
  | .mlist _ _ _ α enc d l => .mlist st true false α enc d (O.cut α l i (O.nadd i n))
  | c => c
def seqLe (O : Num) (c : AV) (i n : Nat) : Bool :=
  match c with
  | .list _ _ _ l => O.nle (O.nadd i n) (O.len l)
  | .mlist _ _ _ α _ _ l => O.nle (O.nadd i n) (O.mlen α l)
  | _ => false
def isIt (ix bs st0 ix' bs' st : Nat) : Bool := bif eqb ix' ix then bif eqb bs' bs then eqb st st0 else false else false
theorem isIt_eq {ix bs st0 ix' bs' st : Nat} (h : isIt ix bs st0 ix' bs' st = true) : ix' = ix ∧ bs' = bs ∧ st = st0 := by
  unfold isIt at h
  cases h1 : eqb ix' ix <;> cases h2 : eqb bs' bs <;> simp [h1, h2] at h
  exact ⟨eqb_eq h1, eqb_eq h2, h⟩
section
variable (O : Num) (ix bs st0 : Nat) (c : AV)
mutual
def frz : AV → AV
  | .own ix' bs' st i n => bif isIt ix bs st0 ix' bs' st then cutSeq O c st i n else .own ix' bs' st i n
  | .agg cs => .agg (frzs cs)
  | .tup cs => .tup (frzs cs)
  | v => v
def frzs : List AV → List AV
  | [] => []
  | v :: r => frz v :: frzs r
end
mutual
def frzC : AV → List Bool
  | .own ix' bs' st i n => bif isIt ix bs st0 ix' bs' st then [seqLe O c i n] else []
  | .agg cs => frzCs cs
  | .tup cs => frzCs cs
  | _ => []
def frzCs : List AV → List Bool
  | [] => []
  | v :: r => frzC v ++ frzCs r
end
end
section
variable {φ : Phi} {H : Nat → Prop} {F : Fr} {w : World} {ob : List Ent} {nx : Nat}
theorem cut_vr {c : AV} {els : List AV} {us rest pre : List Value} {b st i n cap N : Nat} {e T : TypeId} (h1 : seqList real c = some els) (h2 : w.heap[b]? = some (.cells (pre ++ (fl us ++ rest)).toArray e (0, 0))) (h3 : VRs φ H w els us) (h4 : Ones st us) (hb : H b)
    (k1 : n ≤ cap) (k2 : w.shape? b = some (T, N)) (k3 : pre.length + (i + cap) * st ≤ N) (k4 : ∀ k, w.frozen? ⟨b, k, none⟩ = false) (hc : seqLe real c i n = true) :
    VR φ H w (cutSeq real c st i n) (.slice (some ⟨b, pre.length + i * st, none⟩) n cap) := by
  have hl := vrs_len h3
  have hin : i + n ≤ els.length := by
    cases c <;> simp [seqList, seqLe, real] at h1 hc
    · subst h1; exact hc
    · subst h1; simpa using hc
  have hS : SlR H w st true false ((us.drop i).take n) (.slice (some ⟨b, pre.length + i * st, none⟩) n cap) := by
    refine ⟨_, _, _, rfl, by rw [List.length_take, List.length_drop]; omega, k1, by simp, fun x hx => h4 x (List.mem_of_mem_drop (List.mem_of_mem_take hx)), .inr ⟨_, rfl, rfl, hb, ?_⟩, fun _ ad ha => ?_⟩
    · have r := range_drop (range_mid h2) (i * st)
      rw [← fl_drop h4] at r
      have : fl (us.drop i) = fl ((us.drop i).take n) ++ fl ((us.drop i).drop n) := by
        conv => lhs; rw [← List.take_append_drop n (us.drop i)]
        simp [fl]
      rw [this] at r
      exact range_left r
    · cases ha
      refine ⟨rfl, k4, T, N, k2, ?_⟩
      have : (i + n) * st ≤ (i + cap) * st := Nat.mul_le_mul_right _ (by omega)
      simp only [Nat.add_mul] at this k3 ⊢
      omega
  have hv := vrs_take (vrs_drop h3 i) n
  cases c <;> simp only [seqList, reduceCtorEq, Option.some.injEq] at h1
  case list s g f l =>
    subst h1
    exact ⟨_, hv, hS⟩
  case mlist s g f α enc d l =>
    subst h1
    have g := vrs_get hv
    refine ⟨_, by rw [← g.1]; simp [real], fun j hj => ?_, hS⟩
    obtain ⟨x, hx, hr⟩ := g.2 j (by simp [real] at hj ⊢; omega)
    rw [List.getD_eq_getElem?_getD, hx]
    simpa [real] using hr
mutual
theorem frz_vr {H' : Nat → Prop} (hU : Up φ H w φ H' w) {ix bs st0 : Nat} {c : AV} (hR : ∀ i n u, VR φ H w (.own ix bs st0 i n) u → seqLe real c i n = true → VR φ H' w (cutSeq real c st0 i n) u) : ∀ (v : AV) (u : Value), (∀ x ∈ frzC real ix bs st0 c v, x = true) → VR φ H w v u → VR φ H' w (frz real ix bs st0 c v) u
  | .own ix' bs' st i n, u, hc, h => by
    unfold frz
    unfold frzC at hc
    cases hi : isIt ix bs st0 ix' bs' st with
    | false => exact hU.vr _ _ h
    | true =>
      obtain ⟨rfl, rfl, rfl⟩ := isIt_eq hi
      rw [hi] at hc
      exact hR i n u h (hc _ (by simp))
  | .agg cs, u, hc, h => by
    obtain ⟨us, h1, h2, h3⟩ := h
    unfold frz
    exact ⟨us, h1, h2, frzs_vr hU hR cs us (by unfold frzC at hc; exact hc) h3⟩
  | .tup cs, u, hc, h => by
    obtain ⟨us, h1, h3⟩ := h
    unfold frz
    exact ⟨us, h1, frzs_vr hU hR cs us (by unfold frzC at hc; exact hc) h3⟩
  | .int _ _ _, u, _, h => hU.vr _ _ h
  | .bool _, u, _, h => hU.vr _ _ h
  | .val _, u, _, h => hU.vr _ _ h
  | .ptr _ _ _, u, _, h => hU.vr _ _ h
  | .rptr _ _ _ _ _, u, _, h => hU.vr _ _ h
  | .list _ _ _ _, u, _, h => hU.vr _ _ h
  | .mlist _ _ _ _ _ _ _, u, _, h => hU.vr _ _ h
  | .hptr _ _ _, u, _, h => hU.vr _ _ h
  | .fn _ _, u, _, h => hU.vr _ _ h
theorem frzs_vr {H' : Nat → Prop} (hU : Up φ H w φ H' w) {ix bs st0 : Nat} {c : AV} (hR : ∀ i n u, VR φ H w (.own ix bs st0 i n) u → seqLe real c i n = true → VR φ H' w (cutSeq real c st0 i n) u) : ∀ (vs : List AV) (us : List Value), (∀ x ∈ frzCs real ix bs st0 c vs, x = true) → VRs φ H w vs us → VRs φ H' w (frzs real ix bs st0 c vs) us
  | [], us, _, h => h
  | v :: r, us, hc, h => by
    obtain ⟨u, us', rfl, h1, h2⟩ := h
    unfold frzCs at hc
    exact ⟨u, us', rfl, frz_vr hU hR v u (fun x hx => hc x (by simp [hx])) h1, frzs_vr hU hR r us' (fun x hx => hc x (by simp [hx])) h2⟩
end
end
/-- What may be said instead at a contract's end. -/
def Fin (v : AV) (ob : List Ent) (nx : Nat) (v' : AV) (ob' : List Ent) (nx' : Nat) : Prop :=
  ∀ φ H F w u, Rel φ H F ob nx w → VR φ H w v u → ∃ φ' H', Ext φ H F nx w φ' H' nx' w ∧ Rel φ' H' F ob' nx' w ∧ VR φ' H' w v' u
theorem Fin.refl (v : AV) (ob : List Ent) (nx : Nat) : Fin v ob nx v ob nx := fun φ H F w _ hR hv => ⟨φ, H, Ext.refl φ H F nx w, hR, hv⟩
theorem Fin.trans {v ob nx v' ob' nx' v'' ob'' nx''} (h : Fin v ob nx v' ob' nx') (k : Fin v' ob' nx' v'' ob'' nx'') : Fin v ob nx v'' ob'' nx'' := fun φ H F w u hR hv => by
  obtain ⟨p1, H1, e1, r1, v1⟩ := h φ H F w u hR hv
  obtain ⟨p2, H2, e2, r2, v2⟩ := k p1 H1 F w u r1 v1
  exact ⟨p2, H2, e1.trans e2, r2, v2⟩
theorem Fin.forget (v : AV) (ob : List Ent) (nx : Nat) (is : List Nat) : Fin v ob nx v (keepO ob is) nx := fun φ H F w _ hR hv =>
  ⟨φ, H, Ext.refl φ H F nx w, (hR.perm (keepO_perm is ob)).sub (List.sublist_append_left _ _), hv⟩
theorem Fin.forget_all (v : AV) (ob : List Ent) (nx : Nat) : Fin v ob nx v [] nx := Fin.forget v ob nx []
theorem Fin.later (v : AV) (ob : List Ent) {nx nx' : Nat} (h : nx ≤ nx') : Fin v ob nx v ob nx' := fun φ H _ _ _ hR hv =>
  ⟨φ, H, ⟨Up.refl _ _ _, h, fun _ _ _ => rfl, fun _ _ => rfl, Nat.le_refl _, rfl, rfl, rfl⟩, hR.up h, hv⟩
/-- No row, as an empty one of one's own. -/
theorem Fin.virt (ob : List Ent) (nx ix st : Nat) (e : TypeId) (c : AV) : Fin (.val (.slice none 0 0)) ob nx (.own ix nx st 0 0) (⟨ix, nx, .row e st c⟩ :: ob) (nx + 1) := fun φ H F w u hR hv => by
  have hv : u = .slice none 0 0 := hv
  subst hv
  exact ⟨φ, H, ⟨Up.refl _ _ _, Nat.le_succ _, fun _ _ _ => rfl, fun _ _ => rfl, Nat.le_refl _, rfl, rfl, rfl⟩, hR.virt ix _, .inr ⟨rfl, none, rfl, fun _ h => by cases h⟩⟩
theorem Fin.freeze {v : AV} {ob : List Ent} {ix bs st : Nat} {e : TypeId} {c : AV} (hf : find ob ix = some ⟨ix, bs, .row e st c⟩) (hc : ∀ x ∈ frzC real ix bs st c v, x = true) (nx : Nat) : Fin v ob nx (frz real ix bs st c v) (delOb ob ix) nx := fun φ H F w u hR hv => by
  obtain ⟨l, r, h1, _, h3⟩ := find_split hf
  have hm := (find_mem hf).1
  have hp : ob.Perm (⟨ix, bs, .row e st c⟩ :: delOb ob ix) := by rw [h3, h1]; exact List.perm_middle
  have hR' := hR.perm hp.symm
  have hsub : ∀ x ∈ delOb ob ix, x ∈ ob := fun x hx => hp.symm.subset (List.mem_cons_of_mem _ hx)
  let H' : Nat → Prop := fun b => H b ∨ ∃ o, φ ix bs = some (b, o)
  have hU : Up φ H w φ H' w := ⟨fun _ _ _ h => h, fun _ h => .inl h, fun _ _ => rfl, fun _ _ _ h => h, fun _ _ _ _ h => h⟩
  refine ⟨φ, H', ⟨hU, Nat.le_refl _, fun _ _ _ => rfl, fun _ _ => rfl, Nat.le_refl _, rfl, rfl, rfl⟩, ?_, ?_⟩
  · refine ⟨hR.lt, fun b hb => ?_, hR.flt, fun b hb hF => ?_, fun x hx b o hφ => ?_, fun x hx => hR.nb x (hsub x hx), (List.pairwise_cons.1 hR'.nd).2, (List.pairwise_cons.1 hR'.inj).2, hR.fnm.1, fun x hx => hR.fnm.2 x (hsub x hx)⟩
    · rcases hb with hb | ⟨o, ho⟩
      · exact hR.hlt b hb
      · exact (hR.lt _ _ _ _ ho).1
    · rcases hb with hb | ⟨o, ho⟩
      · exact hR.hf b hb hF
      · exact (hR.obs _ hm b o ho).2.1 hF
    · obtain ⟨q1, q2, q3⟩ := hR.obs x (hsub x hx) b o hφ
      refine ⟨fun hb => ?_, q2, q3.up hU rfl⟩
      rcases hb with hb | ⟨o', ho⟩
      · exact q1 hb
      · exact (List.pairwise_cons.1 hR'.inj).1 x hx b o' b o ho hφ rfl
  · refine frz_vr hU (fun i n u hv hle => ?_) v u hc hv
    rcases hv with ⟨b, o, cap, T, N, g1, g2, g3, g4, g5, g6⟩ | ⟨g1, a, g2, g3⟩
    · obtain ⟨_, _, els, pre, us, rest, k0, k1, k2, k3, k4⟩ := hR.obs _ hm b o g1
      subst k2 g2
      exact cut_vr k0 k1 (hU.vrs _ _ k3) k4 (.inr ⟨_, g1⟩) g3 g4 g5 g6 hle
    · subst g1 g2
      have hS : SlR H' w st true false [] (.slice a 0 0) := ⟨a, 0, 0, rfl, rfl, Nat.le_refl _, by simp, by simp [Ones], .inl rfl, fun _ ad e => by simpa using g3 ad e⟩
      cases c <;> simp [seqLe] at hle
      · refine ⟨[], ?_, hS⟩
        simp [real, VRs]
      · refine ⟨[], by simp [real], fun i h => ?_, hS⟩
        simp [real] at h
/-- Other words for a value. -/
def Wk (v v' : AV) : Prop := ∀ φ H w u, VR φ H w v u → VR φ H w v' u
def Wks (vs vs' : List AV) : Prop := ∀ φ H w us, VRs φ H w vs us → VRs φ H w vs' us
theorem Wk.refl (v : AV) : Wk v v := fun _ _ _ _ h => h
theorem Wks.refl (vs : List AV) : Wks vs vs := fun _ _ _ _ h => h
theorem Wk.trans {a b c : AV} (h : Wk a b) (k : Wk b c) : Wk a c := fun _ _ _ _ x => k _ _ _ _ (h _ _ _ _ x)
theorem Wks.nil : Wks [] [] := Wks.refl []
theorem Wks.cons {v v' : AV} {vs vs' : List AV} (h : Wk v v') (k : Wks vs vs') : Wks (v :: vs) (v' :: vs') := fun _ _ _ _ x => by
  obtain ⟨u, us', rfl, h1, h2⟩ := x
  exact ⟨u, us', rfl, h _ _ _ _ h1, k _ _ _ _ h2⟩
theorem Wk.agg {vs vs' : List AV} (h : Wks vs vs') : Wk (.agg vs) (.agg vs') := fun _ _ _ _ x => by
  obtain ⟨us, h1, h2, h3⟩ := x
  exact ⟨us, h1, h2, h _ _ _ _ h3⟩
theorem Wk.tup {vs vs' : List AV} (h : Wks vs vs') : Wk (.tup vs) (.tup vs') := fun _ _ _ _ x => by
  obtain ⟨us, h1, h3⟩ := x
  exact ⟨us, h1, h _ _ _ _ h3⟩
/-- A held row of encodings. -/
theorem Wk.mlist {st : Nat} {gd full gd' full' : Bool} {α : Type} {enc : α → AV} {d : α} {l : List α} {l' : List AV} (e : l' = l.map enc) (h1 : gd' = true → gd = true) (h2 : full' = true → full = true) : Wk (.list st gd full l') (.mlist st gd' full' α enc d l) := fun φ H w u x => by
  subst e
  obtain ⟨us, g1, a, n, cap, k1, k2, k3, k4, k5, k6, k7⟩ := x
  have g := vrs_get g1
  refine ⟨us, by simpa using g.1.symm, fun i hi => ?_, a, n, cap, k1, k2, k3, fun h => k4 (h2 h), k5, k6, fun h => k7 (h1 h)⟩
  obtain ⟨x, hx, hr⟩ := g.2 i (by simpa using hi)
  rw [List.getD_eq_getElem?_getD, hx]
  simpa using hr
theorem Wk.list {st : Nat} {gd full gd' full' : Bool} {α : Type} {enc : α → AV} {d : α} {l : List α} {l' : List AV} (e : l' = l.map enc) (h1 : gd' = true → gd = true) (h2 : full' = true → full = true) : Wk (.mlist st gd full α enc d l) (.list st gd' full' l') := fun φ H w u x => by
  subst e
  obtain ⟨us, g1, g2, a, n, cap, k1, k2, k3, k4, k5, k6, k7⟩ := x
  refine ⟨us, vrs_of (by simpa using g1.symm) fun i hi => ?_, a, n, cap, k1, k2, k3, fun h => k4 (h2 h), k5, k6, fun h => k7 (h1 h)⟩
  have hi' : i < us.length := by rw [g1]; simpa using hi
  refine ⟨us[i], List.getElem?_eq_getElem hi', ?_⟩
  have := g2 i (by simpa using hi)
  rw [List.getD_eq_getElem?_getD, List.getElem?_eq_getElem hi'] at this
  simpa using this
theorem Fin.wk {v v' : AV} (ob : List Ent) (nx : Nat) (h : Wk v v') : Fin v ob nx v' ob nx := fun φ H F w _ hR hv => ⟨φ, H, Ext.refl φ H F nx w, hR, h _ _ _ _ hv⟩
/-- Other words for an object. -/
theorem Fin.obj {v : AV} {ob : List Ent} {ix bs st : Nat} {e : TypeId} {c c' : AV} (hf : find ob ix = some ⟨ix, bs, .row e st c⟩) (hs : seqList real c = seqList real c') (nx : Nat) : Fin v ob nx v (⟨ix, bs, .row e st c'⟩ :: delOb ob ix) nx := fun φ H F w u hR hv => by
  obtain ⟨l, r, h1, _, h3⟩ := find_split hf
  have hp : ob.Perm (⟨ix, bs, .row e st c⟩ :: delOb ob ix) := by rw [h3, h1]; exact List.perm_middle
  have hR' := hR.perm hp.symm
  refine ⟨φ, H, Ext.refl φ H F nx w, ⟨hR.lt, hR.hlt, hR.flt, hR.hf, fun x hx b o hφ => ?_, fun x hx => ?_, List.pairwise_cons.2 ⟨fun x hx => (List.pairwise_cons.1 hR'.nd).1 x hx, (List.pairwise_cons.1 hR'.nd).2⟩, List.pairwise_cons.2 ⟨fun x hx => (List.pairwise_cons.1 hR'.inj).1 x hx, (List.pairwise_cons.1 hR'.inj).2⟩, hR.fnm.1, fun x hx => ?_⟩, hv⟩
  · rcases List.mem_cons.1 hx with rfl | hx
    · obtain ⟨q1, q2, els, pre, us, rest, k0, k⟩ := hR'.obs _ List.mem_cons_self b o hφ
      exact ⟨q1, q2, els, pre, us, rest, hs ▸ k0, k⟩
    · exact hR'.obs x (List.mem_cons_of_mem _ hx) b o hφ
  · rcases List.mem_cons.1 hx with rfl | hx
    · exact hR'.nb ⟨ix, bs, .row e st c⟩ List.mem_cons_self
    · exact hR'.nb x (List.mem_cons_of_mem _ hx)
  · rcases List.mem_cons.1 hx with rfl | hx
    · exact hR'.fnm.2 ⟨ix, bs, .row e st c⟩ List.mem_cons_self
    · exact hR'.fnm.2 x (List.mem_cons_of_mem _ hx)
/-- A contract's end in other words. -/
theorem ACalls.fin {P : Program} {f : FuncId} {args : List AV} {ob : List Ent} {nx : Nat} {Q Q' : AV → List Ent → Nat → Prop} (h : ACalls P f args ob nx Q) (hq : ∀ r ob' nx', Q r ob' nx' → ∃ r' ob'' nx'', Fin r ob' nx' r' ob'' nx'' ∧ Q' r' ob'' nx'') : ACalls P f args ob nx Q' := ⟨fun φ H F w vs hR hvs => by
  have go : ∀ e w', CPost φ H F nx w Q e w' → CPost φ H F nx w Q' e w' := fun e w' k => by
    cases e with
    | panicked => exact k
    | outgrown => exact k
    | returned v =>
      obtain ⟨r, ob', nx', p, q, h1, h2, h3, h4⟩ := k
      obtain ⟨r', ob'', nx'', hF, hQ⟩ := hq _ _ _ h1
      obtain ⟨p', H', e', r2, v2⟩ := hF _ _ _ _ _ h3 h4
      exact ⟨r', ob'', nx'', p', H', hQ, h2.trans e', r2, v2⟩
  rcases h.go φ H F w vs hR hvs with ⟨h1, h2⟩ | ⟨v, h1, h2⟩
  · exact .inl ⟨h1, h2.mono go⟩
  · exact .inr ⟨v, h1, go _ _ h2⟩⟩
theorem ACalls.args {P : Program} {f : FuncId} {args args' : List AV} {ob : List Ent} {nx : Nat} {Q : AV → List Ent → Nat → Prop} (h : ACalls P f args' ob nx Q) (hw : Wks args args') : ACalls P f args ob nx Q := ⟨fun φ H F w vs hR hvs => h.go φ H F w vs hR (hw _ _ _ _ hvs)⟩
end Go.Proofs.Ytckkcgkgfkgfdaa.AM
