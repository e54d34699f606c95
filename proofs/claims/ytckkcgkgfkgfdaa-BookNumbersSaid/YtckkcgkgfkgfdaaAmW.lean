/- Ways to use contracts: numbers shut by a law, a contract among any objects, other words at a loop's head and at a contract's end. Plain laws; no condition. -/
import Derived.Test.YtckkcgkgfkgfdaaAmV
set_option linter.unusedVariables false
namespace Go.Proofs.Ytckkcgkgfkgfdaa.AM
universe u
/-- What a contract's end comes to, in other words. -/
def FQ (Q : AV → List Ent → Nat → Prop) (v : AV) (o : List Ent) (n : Nat) : Prop := ∃ v' o' n', Fin v o n v' o' n' ∧ Q v' o' n'
section
variable {Q : AV → List Ent → Nat → Prop} {v : AV} {o : List Ent} {n : Nat}
theorem FQ.done (h : Q v o n) : FQ Q v o n := ⟨v, o, n, Fin.refl _ _ _, h⟩
theorem FQ.by_ {v' : AV} {o' : List Ent} {n' : Nat} (h : Fin v o n v' o' n') (k : FQ Q v' o' n') : FQ Q v o n := by
  obtain ⟨v2, o2, n2, h2, k2⟩ := k
  exact ⟨v2, o2, n2, h.trans h2, k2⟩
theorem FQ.wk {v' : AV} (h : Wk v v') (k : FQ Q v' o n) : FQ Q v o n := FQ.by_ (Fin.wk _ _ h) k
theorem FQ.forget (k : FQ Q v [] n) : FQ Q v o n := FQ.by_ (Fin.forget_all _ _ _) k
theorem FQ.keep (is : List Nat) (k : FQ Q v (keepO o is) n) : FQ Q v o n := FQ.by_ (Fin.forget _ _ _ is) k
theorem FQ.frz (ix : Nat) {bs st : Nat} {e : TypeId} {c : AV} (hf : find o ix = some ⟨ix, bs, .row e st c⟩) (hc : ∀ x ∈ frzC real ix bs st c v, x = true) (k : FQ Q (frz real ix bs st c v) (delOb o ix) n) : FQ Q v o n := FQ.by_ (Fin.freeze hf hc n) k
end
/-- A function's contract, with what an evaluation leaves shut taken for variables. -/
theorem acalls_go {P : Program} {T : Tab} {nm : List (Nat × Nat)} {pl : List Plan} (hT : TabOk P T) (hm : P.follows .mixedOrders = true) {f : FuncId} {fn : Func} {c : Code} (hf : P.funcs[f]? = some fn) (hb : fn.body = some c) (hname : (fn.name == "runtime.NumGoroutine") = false) (hpl : plansOk pl c = true) {args : List AV} {ob : List Ent} {nx : Nat}
    {Q : AV → List Ent → Nat → Prop} (h : ∀ (O : Num) (P' : Program) (Q' : AV → List Ent → Nat → Prop), real = O → P = P' → Q' = FQ Q → awp P' O T fn.ntmps nm pl c (resK O T fn.results.toList Q') ⟨argT 0 args, ob, nx⟩) : ACalls P f args ob nx Q :=
  ACalls.fin (acalls_of hT hm hf hb hname hpl (h real P (FQ Q) rfl rfl rfl)) fun _ _ _ h => h
theorem ACalls.fr {P : Program} {f : FuncId} {args : List AV} {ob : List Ent} {nx : Nat} {Q Q' : AV → List Ent → Nat → Prop} (h : ACalls P f args [] nx Q) (hq : ∀ r o n, Q r o n → Q' r (o ++ ob) n) : ACalls P f args ob nx Q' := ACalls.frame [] h hq
mutual
/-- A number as any other, wherever it stands. -/
def unl : AV → AV
  | .int _ k n => .int false k n
  | .agg cs => .agg (unls cs)
  | .tup cs => .tup (unls cs)
  | v => v
def unls : List AV → List AV
  | [] => []
  | v :: r => unl v :: unls r
end
mutual
theorem unl_wk : ∀ v : AV, Wk v (unl v)
  | .int _ _ _ => fun _ _ _ _ h => h
  | .agg cs => by rw [unl]; exact Wk.agg (unls_wk cs)
  | .tup cs => by rw [unl]; exact Wk.tup (unls_wk cs)
  | .bool _ => fun _ _ _ _ h => h
  | .val _ => fun _ _ _ _ h => h
  | .ptr _ _ _ => fun _ _ _ _ h => h
  | .rptr _ _ _ _ _ => fun _ _ _ _ h => h
  | .own _ _ _ _ _ => fun _ _ _ _ h => h
  | .list _ _ _ _ => fun _ _ _ _ h => h
  | .mlist _ _ _ _ _ _ _ => fun _ _ _ _ h => h
  | .hptr _ _ _ => fun _ _ _ _ h => h
  | .fn _ _ => fun _ _ _ _ h => h
theorem unls_wk : ∀ vs : List AV, Wks vs (unls vs)
  | [] => Wks.nil
  | v :: r => by rw [unls]; exact Wks.cons (unl_wk v) (unls_wk r)
end
theorem FQ.unl {Q : AV → List Ent → Nat → Prop} {v : AV} {o : List Ent} {n : Nat} (k : FQ Q (unl v) o n) : FQ Q v o n := FQ.wk (unl_wk v) k
/-- Nil, as a held row of none. -/
theorem Wk.nil_mlist (st : Nat) (gd full : Bool) (α : Type) (enc : α → AV) (d : α) : Wk (.val (.slice none 0 0)) (.mlist st gd full α enc d []) := fun φ H w u h => by
  have h : u = .slice none 0 0 := h
  subst h
  exact ⟨[], rfl, fun i hi => by simp at hi, none, 0, 0, rfl, rfl, Nat.le_refl _, fun _ => rfl, by simp [Ones], .inl rfl, fun _ ad e => by cases e⟩
/-- Nil, as a row of one's own of none. -/
theorem Wk.nil_own (ix bs st : Nat) : Wk (.val (.slice none 0 0)) (.own ix bs st 0 0) := fun φ H w u h => by
  have h : u = .slice none 0 0 := h
  subst h
  exact .inr ⟨rfl, none, rfl, fun ad e => by cases e⟩
/-- A nought, written by the program, as a row of parts. -/
theorem Wk.ofV {a : Array Value} (h : ∀ c ∈ a.toList, c.oneCell' = true) : Wk (.val (.agg a)) (.agg (ofVals a.toList)) := fun φ H w u hu => by
  have hu : u = .agg a := hu
  subst hu
  exact ⟨a.toList, rfl, h, vrs_ofVals _⟩
theorem Wk.flags {st : Nat} {gd full gd' full' : Bool} {α : Type} {enc : α → AV} {d : α} {l : List α} (h1 : gd' = true → gd = true) (h2 : full' = true → full = true) : Wk (.mlist st gd full α enc d l) (.mlist st gd' full' α enc d l) := fun φ H w u x => by
  obtain ⟨us, g1, g2, a, n, cap, k1, k2, k3, k4, k5, k6, k7⟩ := x
  exact ⟨us, g1, g2, a, n, cap, k1, k2, k3, fun h => k4 (h2 h), k5, k6, fun h => k7 (h1 h)⟩
theorem Wk.recode {st : Nat} {gd full : Bool} {α β : Type} {enc : α → AV} {enc' : β → AV} {d : α} {d' : β} {l : List α} {l' : List β} (h : l.map enc = l'.map enc') : Wk (.mlist st gd full α enc d l) (.mlist st gd full β enc' d' l') :=
  (Wk.list (gd' := gd) (full' := full) rfl id id).trans (Wk.mlist h id id)
theorem Wk.els {st : Nat} {gd full : Bool} {l l' : List AV} (h : Wks l l') : Wk (.list st gd full l) (.list st gd full l') := fun φ H w u x => by
  obtain ⟨us, h1, h2⟩ := x
  exact ⟨us, h _ _ _ _ h1, h2⟩
theorem Wks.rep {v v' : AV} (h : Wk v v') : ∀ n : Nat, Wks (List.replicate n v) (List.replicate n v')
  | 0 => Wks.nil
  | n + 1 => by
    rw [List.replicate_succ, List.replicate_succ]
    exact Wks.cons h (Wks.rep h n)
theorem vrs_split {φ : Phi} {H : Nat → Prop} {w : World} {b : List AV} : ∀ {a : List AV} {us : List Value}, VRs φ H w (a ++ b) us → ∃ ua ub, us = ua ++ ub ∧ VRs φ H w a ua ∧ VRs φ H w b ub
  | [], us, h => ⟨[], us, rfl, rfl, h⟩
  | v :: r, us, h => by
    obtain ⟨u, us', rfl, h1, h2⟩ := h
    obtain ⟨ua, ub, rfl, h3, h4⟩ := vrs_split (a := r) h2
    exact ⟨u :: ua, ub, rfl, ⟨u, ua, rfl, h1, h3⟩, h4⟩
theorem Wks.append {a a' b b' : List AV} (h : Wks a a') (k : Wks b b') : Wks (a ++ b) (a' ++ b') := fun φ H w us x => by
  obtain ⟨ua, ub, rfl, h1, h2⟩ := vrs_split x
  exact vrs_append (h _ _ _ _ h1) (k _ _ _ _ h2)
/-- A held row of encodings, of other words. -/
theorem Wk.mlist_els {st : Nat} {gd full : Bool} {α : Type} {enc : α → AV} {d : α} {l : List α} {l' : List AV} (h : Wks l' (l.map enc)) : Wk (.list st gd full l') (.mlist st gd full α enc d l) := (Wk.els h).trans (Wk.mlist rfl id id)
/-- Other words for objects. -/
def WkO (o o' : Ob) : Prop := ∀ φ H w b k, ObR φ H w o b k → ObR φ H w o' b k
theorem WkO.refl (o : Ob) : WkO o o := fun _ _ _ _ _ h => h
theorem WkO.trans {a b c : Ob} (h : WkO a b) (k : WkO b c) : WkO a c := fun _ _ _ _ _ x => k _ _ _ _ _ (h _ _ _ _ _ x)
theorem WkO.box {e : TypeId} {cs cs' : List AV} (h : Wks cs cs') : WkO (.box e cs) (.box e cs') := fun φ H w b k hx => by
  obtain ⟨pre, us, rest, h1, h2, h3, h4⟩ := hx
  exact ⟨pre, us, rest, h1, h2, h _ _ _ _ h3, h4⟩
theorem WkO.row {e : TypeId} {st : Nat} {c c' : AV} {l l' : List AV} (h1 : seqList real c = some l) (h2 : seqList real c' = some l') (h : Wks l l') : WkO (.row e st c) (.row e st c') := fun φ H w b k hx => by
  obtain ⟨els, pre, us, rest, k1, k2, k3, k4, k5⟩ := hx
  rw [h1] at k1
  cases k1
  exact ⟨l', pre, us, rest, h2, k2, k3, h _ _ _ _ k4, k5⟩
theorem WkO.eq {e : TypeId} {st : Nat} {c c' : AV} {l : List AV} (h1 : seqList real c = some l) (h2 : seqList real c' = some l) : WkO (.row e st c) (.row e st c') := WkO.row h1 h2 (Wks.refl l)
inductive ObW : List Ent → List Ent → Prop
  | nil : ObW [] []
  | cons {ix bs : Nat} {o o' : Ob} {r r' : List Ent} : WkO o o' → ObW r r' → ObW (⟨ix, bs, o⟩ :: r) (⟨ix, bs, o'⟩ :: r')
theorem ObW.refl : ∀ l : List Ent, ObW l l
  | [] => .nil
  | ⟨_, _, o⟩ :: r => .cons (WkO.refl o) (ObW.refl r)
theorem ObW.mem {l l' : List Ent} (h : ObW l l') : ∀ e' ∈ l', ∃ e ∈ l, e.ix = e'.ix ∧ e.bs = e'.bs ∧ WkO e.ob e'.ob := by
  induction h with
  | nil => intro e' he; cases he
  | cons h1 _ ih =>
    intro e' he
    rcases List.mem_cons.1 he with rfl | he
    · exact ⟨_, List.mem_cons_self, rfl, rfl, h1⟩
    · obtain ⟨e, h2, h3⟩ := ih e' he
      exact ⟨e, List.mem_cons_of_mem _ h2, h3⟩
theorem ObW.pw {R : Nat → Nat → Nat → Nat → Prop} {l l' : List Ent} (h : ObW l l') : l.Pairwise (fun e e' => R e.ix e.bs e'.ix e'.bs) → l'.Pairwise (fun e e' => R e.ix e.bs e'.ix e'.bs) := by
  induction h with
  | nil => exact id
  | cons h1 h2 ih =>
    intro hp
    obtain ⟨g1, g2⟩ := List.pairwise_cons.1 hp
    refine List.pairwise_cons.2 ⟨fun e' he => ?_, ih g2⟩
    obtain ⟨e, k1, k2, k3, _⟩ := h2.mem e' he
    have := g1 e k1
    simp only [k2, k3] at this
    exact this
theorem ObW.rel {φ : Phi} {H : Nat → Prop} {F : Fr} {l l' : List Ent} {nx : Nat} {w : World} (h : ObW l l') (hR : Rel φ H F l nx w) : Rel φ H F l' nx w := by
  refine ⟨hR.lt, hR.hlt, hR.flt, hR.hf, fun e' he b o hp => ?_, fun e' he => ?_, h.pw (R := fun a b c d => a ≠ c ∨ b ≠ d) hR.nd, h.pw (R := fun a b c d => ∀ x o x' o', φ a b = some (x, o) → φ c d = some (x', o') → x ≠ x') hR.inj, hR.fnm.1, fun e' he => ?_⟩
  · obtain ⟨e, k1, k2, k3, k4⟩ := h.mem e' he
    rw [← k2, ← k3] at hp
    obtain ⟨q1, q2, q3⟩ := hR.obs e k1 b o hp
    exact ⟨q1, q2, k4 _ _ _ _ _ q3⟩
  · obtain ⟨e, k1, k2, k3, _⟩ := h.mem e' he
    rw [← k3]
    exact hR.nb e k1
  · obtain ⟨e, k1, k2, k3, _⟩ := h.mem e' he
    rw [← k2, ← k3]
    exact hR.fnm.2 e k1
theorem Fin.objs {v : AV} {l l' : List Ent} (h : ObW l l') (n : Nat) : Fin v l n v l' n := fun φ H F w _ hR hv => ⟨φ, H, Ext.refl φ H F n w, h.rel hR, hv⟩
theorem FQ.objs {Q : AV → List Ent → Nat → Prop} {v : AV} {o o' : List Ent} {n : Nat} (h : ObW o o') (k : FQ Q v o' n) : FQ Q v o n := FQ.by_ (Fin.objs h n) k
inductive TmW : List (Nat × AV) → List (Nat × AV) → Prop
  | nil : TmW [] []
  | cons {t : Nat} {v v' : AV} {r r' : List (Nat × AV)} : Wk v v' → TmW r r' → TmW ((t, v) :: r) ((t, v') :: r')
theorem TmW.refl : ∀ l : List (Nat × AV), TmW l l
  | [] => .nil
  | (_, v) :: r => .cons (Wk.refl v) (TmW.refl r)
theorem TmW.get {l l' : List (Nat × AV)} (h : TmW l l') : ∀ {t : Nat} {v' : AV}, tmget l' t = some v' → ∃ v, tmget l t = some v ∧ Wk v v' := by
  induction h with
  | nil => intro t v' h; simp [tmget] at h
  | @cons k v v' r r' h1 _ ih =>
    intro t x hx
    rw [tmget_cons] at hx ⊢
    by_cases e : k = t
    · rw [if_pos e] at hx ⊢
      cases hx
      exact ⟨v, rfl, h1⟩
    · rw [if_neg e] at hx ⊢
      exact ih hx
theorem Sf.refl (s : St) : Sf s s := fun _ φ H F _ w h => ⟨φ, H, Ext.refl φ H F s.nx w, h⟩
theorem Sf.trans {a b c : St} (h : Sf a b) (k : Sf b c) : Sf a c := fun N φ H F x w hs => by
  obtain ⟨p, q, h1, h2⟩ := h N φ H F x w hs
  obtain ⟨p', q', h3, h4⟩ := k N p q F x w h2
  exact ⟨p', q', h1.trans h3, h4⟩
theorem Sf.wk {tm tm' : List (Nat × AV)} {ob ob' : List Ent} (n : Nat) (h : TmW tm tm') (k : ObW ob ob') : Sf ⟨tm, ob, n⟩ ⟨tm', ob', n⟩ := fun N φ H F a w hs =>
  ⟨φ, H, Ext.refl φ H F n w, k.rel hs.rel, hs.defs, hs.sz, fun t v hv => by
    obtain ⟨v0, h1, h2⟩ := h.get hv
    obtain ⟨u, hu, hr⟩ := hs.tm t v0 h1
    exact ⟨u, hu, h2 _ _ _ _ hr⟩⟩
/-- An object that isn't there yet. -/
theorem Sf.virt (tm : List (Nat × AV)) (ob : List Ent) (n ix : Nat) (o : Ob) : Sf ⟨tm, ob, n⟩ ⟨tm, ⟨ix, n, o⟩ :: ob, n + 1⟩ := fun N φ H F a w hs =>
  ⟨φ, H, ⟨Up.refl _ _ _, Nat.le_succ _, fun _ _ _ => rfl, fun _ _ => rfl, Nat.le_refl _, rfl, rfl, rfl⟩, hs.rel.virt ix o, hs.defs, hs.sz, hs.tm⟩
theorem Sf.later (tm : List (Nat × AV)) (ob : List Ent) {n n' : Nat} (h : n ≤ n') : Sf ⟨tm, ob, n⟩ ⟨tm, ob, n'⟩ := fun N φ H F a w hs =>
  ⟨φ, H, ⟨Up.refl _ _ _, h, fun _ _ _ => rfl, fun _ _ => rfl, Nat.le_refl _, rfl, rfl, rfl⟩, hs.rel.up h, hs.defs, hs.sz, hs.tm⟩
theorem Sf.perm {tm : List (Nat × AV)} {ob ob' : List Ent} (n : Nat) (h : ob'.Perm ob) : Sf ⟨tm, ob, n⟩ ⟨tm, ob', n⟩ := fun N φ H F a w hs =>
  ⟨φ, H, Ext.refl φ H F n w, hs.rel.perm h, hs.defs, hs.sz, hs.tm⟩
theorem WI.now {I : St → Prop} {s : St} (h : I s) : WI I s := ⟨s, Sf.refl s, h⟩
theorem WD.now {I : St → Prop} {μ : St → Nat} {n : Nat} {s : St} (h : I s) (k : μ s < n) : WD I μ n s := ⟨s, Sf.refl s, h, k⟩
theorem CUT.go {K : St → Prop} {s s2 : St} (f : Sf s s2) (h : K s2) : CUT K s := ⟨s2, f, h⟩
theorem WI.sf {I : St → Prop} {s s' : St} (f : Sf s s') (h : WI I s') : WI I s := by
  obtain ⟨s2, h1, h2⟩ := h
  exact ⟨s2, f.trans h1, h2⟩
theorem WD.sf {I : St → Prop} {μ : St → Nat} {n : Nat} {s s' : St} (f : Sf s s') (h : WD I μ n s') : WD I μ n s := by
  obtain ⟨s2, h1, h2⟩ := h
  exact ⟨s2, f.trans h1, h2⟩
end Go.Proofs.Ytckkcgkgfkgfdaa.AM
