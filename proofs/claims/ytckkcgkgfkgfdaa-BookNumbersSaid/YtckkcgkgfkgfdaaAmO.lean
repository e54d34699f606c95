/- A region that draws its order, over an abstract memory. Plain laws; no condition. -/
import Derived.Test.YtckkcgkgfkgfdaaAmN
namespace Go.Proofs.Ytckkcgkgfkgfdaa.AM
open Go.Proofs.Ytckkcgkgfkgfdaa.Par (reach reach_ready depB depB_of backB wpAny_inv permB set_upd getD_tf)
universe u
abbrev Tf := Nat → Option AV
def aopdF (f : Tf) : Operand → Option AV
  | .tmp t => f t
  | .const v => some (ofVal v)
  | .func g => some (.fn (.func g) [])
  | .global _ => none
def aopdsF (f : Tf) : List Operand → Option (List AV)
  | [] => some []
  | x :: r => match aopdF f x, aopdsF f r with
    | some v, some vs => some (v :: vs)
    | _, _ => none
def awantF (ops : Array Oper) (f : Tf) : Option (Nat × Bool) → Option Bool
  | none => some true
  | some (j, want) => match ops[j]? with
    | some o => match o.dst with
      | some d => match f d with
        | some (.bool b) => some (bif want then b else (bif b then false else true))
        | some (.val (.tuple _)) => some false
        | _ => none
      | none => none
    | none => none
theorem aopdF_eq (tm : List (Nat × AV)) (x : Operand) : aopd tm x = aopdF (tmget tm) x := by cases x <;> rfl
theorem aopdsF_eq (tm : List (Nat × AV)) : ∀ l, aopds tm l = aopdsF (tmget tm) l
  | [] => rfl
  | x :: l => by
    rw [aopds, aopdsF, aopdF_eq, aopdsF_eq tm l]
    cases aopdF (tmget tm) x <;> cases aopdsF (tmget tm) l <;> rfl
theorem awantF_eq (ops : Array Oper) (tm : List (Nat × AV)) : ∀ g, awant ops.toList tm g = awantF ops (tmget tm) g
  | none => rfl
  | some (j, want) => by
    simp only [awant, awantF, lget_of, Array.getElem?_toList]
    cases ops[j]? with
    | none => rfl
    | some o =>
      cases hd : o.dst with
      | none => simp only [hd]
      | some d =>
        simp only [hd]
        cases tmget tm d with
        | none => rfl
        | some v => cases v <;> rfl
def putF (f : Tf) (d : Option Nat) (v : AV) : Tf := match d with | none => f | some t => fun k => if t = k then some v else f k
theorem tput_eq {N : Nat} {tm tm' : List (Nat × AV)} {d : Option Nat} {v : AV} (h : tput N tm d v = some tm') : tmget tm' = putF (tmget tm) d v ∧ ∀ t, d = some t → t < N := by
  cases d with
  | none => simp [tput] at h; subst h; exact ⟨rfl, by simp⟩
  | some t =>
    rw [tput] at h
    cases hb : ltb t N with
    | false => simp [hb] at h
    | true =>
      simp [hb] at h
      subst h
      refine ⟨funext fun k => by rw [tmget_cons]; rfl, fun k hk => ?_⟩
      cases hk
      exact ltb_lt hb
section
variable {φ : Phi} {H : Nat → Prop} {F : Fr} {w : World} {P : Program} {T : Tab} {N : Nat} {nm : List (Nat × Nat)}
theorem aopdF_ok {f : Tf} {a : Act} (h : TmR φ H w f a) {x : Operand} {v : AV} (hx : aopdF f x = some v) : VR φ H w v (a.eval x) := by
  cases x with
  | tmp t =>
    obtain ⟨u, hu, hr⟩ := h t v hx
    simpa [Act.eval, hu] using hr
  | const c => simp [aopdF] at hx; subst hx; exact vr_ofVal c
  | func g => simp [aopdF] at hx; subst hx; exact ⟨[], rfl, rfl⟩
  | global g => simp [aopdF] at hx
theorem aopdsF_ok {f : Tf} {a : Act} (h : TmR φ H w f a) : ∀ {l : List Operand} {vs : List AV}, aopdsF f l = some vs → VRs φ H w vs (l.map a.eval)
  | [], vs, hx => by simp [aopdsF] at hx; subst hx; exact rfl
  | x :: l, vs, hx => by
    rw [aopdsF] at hx
    cases h1 : aopdF f x with
    | none => simp [h1] at hx
    | some v =>
      cases h2 : aopdsF f l with
      | none => simp [h1, h2] at hx
      | some r =>
        simp [h1, h2] at hx
        subst hx
        exact ⟨_, _, rfl, aopdF_ok h h1, aopdsF_ok h h2⟩
theorem awantF_ok {ops : Array Oper} {f : Tf} {a : Act} (h : TmR φ H w f a) {o : Oper} {b : Bool} (hw : awantF ops f o.guard = some b) : Region.wanted o (yielded ops a.tmps) = b := by
  unfold Region.wanted
  cases hg : o.guard with
  | none => rw [hg] at hw; simpa [awantF] using hw
  | some g =>
    obtain ⟨j, want⟩ := g
    rw [hg] at hw
    simp only [awantF] at hw
    cases hj : ops[j]? with
    | none => simp [hj] at hw
    | some oj =>
      cases hd : oj.dst with
      | none => simp [hj, hd] at hw
      | some d =>
        simp only [hj, hd] at hw
        cases ht : f d with
        | none => simp [ht] at hw
        | some v =>
          cases v <;> simp only [ht] at hw <;> try (cases hw; done)
          · rename_i c
            obtain ⟨u, hu, hr⟩ := h d _ ht
            have hr : u = .bool c := hr
            subst hr
            simp only [yielded, hj, Option.bind_some, hd, hu]
            cases want <;> cases c <;> simp at hw <;> simp [hw]
          · rename_i z
            obtain ⟨u, hu, hr⟩ := h d _ ht
            have hr : u = z := hr
            subst hr
            cases u <;> simp only [reduceCtorEq, Option.some.injEq] at hw
            subst hw
            simp [yielded, hj, hd, hu]
/-- Two ways to hold temporaries that agree on what an operation looks at. -/
theorem opds_looks {op : Op} {t : Nat} (h : Operand.tmp t ∈ opds op) : Operand.tmp t ∈ op.operands.toList := by
  have hs : ∀ l : List (Nat × Operand), snds l = l.map (·.2) := fun l => by
    induction l with
    | nil => rfl
    | cons a r ih => obtain ⟨i, x⟩ := a; simp [snds, ih]
  have ho : ∀ {l : Option Operand} {x : Operand}, x ∈ opts l → l = some x := fun {l} {x} h => by
    cases l with
    | none => cases h
    | some y =>
      have : x = y := by simpa [opts] using h
      rw [this]
  cases op
  case slice ty x l hh m =>
    have h : Operand.tmp t ∈ x :: (opts l ++ (opts hh ++ opts m)) := h
    rcases List.mem_cons.1 h with rfl | h
    · simp [Op.operands]
    · rcases List.mem_append.1 h with h | h
      · simp [Op.operands, ho h]
      · rcases List.mem_append.1 h with h | h
        · simp [Op.operands, ho h]
        · simp [Op.operands, ho h]
  case call c =>
    obtain ⟨cal, args, ts⟩ := c
    cases cal
    case value f => simpa [opds, Op.operands, Call.operands] using h
    case invoke r n => simp [opds] at h
    case builtin b => simpa [opds, Op.operands, Call.operands] using h
  all_goals first | (simp [opds] at h; done) | (simpa [opds, Op.operands, hs] using h)
theorem aopdsF_congr {f g : Tf} : ∀ {l : List Operand}, (∀ t, Operand.tmp t ∈ l → f t = g t) → aopdsF f l = aopdsF g l
  | [], _ => rfl
  | x :: l, h => by
    rw [aopdsF, aopdsF, aopdsF_congr fun t ht => h t (List.mem_cons_of_mem _ ht)]
    have : aopdF f x = aopdF g x := by
      cases x with
      | tmp t => exact h t List.mem_cons_self
      | _ => rfl
    rw [this]
theorem awantF_congr {ops : Array Oper} {f g : Tf} {o : Oper} (h : ∀ t, t ∈ o.looksAt ops → f t = g t) : awantF ops f o.guard = awantF ops g o.guard := by
  cases hg : o.guard with
  | none => rfl
  | some q =>
    obtain ⟨j, want⟩ := q
    simp only [awantF]
    cases hj : ops[j]? with
    | none => rfl
    | some oj =>
      cases hd : oj.dst with
      | none => simp only [hd]
      | some d =>
        have : f d = g d := h d (by simp [Oper.looksAt, hg, hj, hd])
        simp only [hd, this]
/-- An operation's test and operands are as they came up. -/
def Cnd (ops : Array Oper) (f : Tf) (o : Oper) (b : Bool) (xs : List AV) : Prop := awantF ops f o.guard = some b ∧ (b = true → aopdsF f (opds o.op) = some xs)
theorem looks_of {ops : Array Oper} {o : Oper} {t : Nat} (h : Operand.tmp t ∈ opds o.op) : t ∈ o.looksAt ops := by
  have := opds_looks h
  simp only [Oper.looksAt, List.mem_append, List.mem_filterMap]
  exact .inl ⟨_, this, rfl⟩
theorem Cnd.congr {ops : Array Oper} {f g : Tf} {o : Oper} {b : Bool} {xs : List AV} (h : ∀ t, t ∈ o.looksAt ops → f t = g t) (k : Cnd ops f o b xs) : Cnd ops g o b xs :=
  ⟨by rw [← awantF_congr h]; exact k.1, fun hb => by rw [← aopdsF_congr fun t ht => h t (looks_of ht)]; exact k.2 hb⟩
def Runs (ops : Array Oper) : Tf → List Pen → Tf → Prop
  | f, [], g => f = g
  | f, p :: ps, g => Cnd ops f p.o p.b p.xs ∧ Runs ops (putF f p.o.dst p.v) ps g
theorem Runs.snoc {ops : Array Oper} : ∀ {ps : List Pen} {f g : Tf}, Runs ops f ps g → ∀ p : Pen, Cnd ops g p.o p.b p.xs → Runs ops f (ps ++ [p]) (putF g p.o.dst p.v)
  | [], f, g, h, p, hc => by
    have h : f = g := h
    subst h
    exact ⟨hc, rfl⟩
  | q :: ps, f, g, h, p, hc => ⟨h.1, Runs.snoc h.2 p hc⟩
theorem putF_other {f : Tf} {d : Option Nat} {v : AV} {t : Nat} (h : d ≠ some t) : putF f d v t = f t := by
  cases d with
  | none => rfl
  | some k => simp only [putF]; rw [if_neg (fun e => h (by rw [e]))]
theorem putF_comm {f : Tf} {d e : Option Nat} {u v : AV} (h : ∀ t, d = some t → e ≠ some t) : putF (putF f d u) e v = putF (putF f e v) d u := by
  cases d with
  | none => rfl
  | some a =>
    cases e with
    | none => rfl
    | some b =>
      have hne : a ≠ b := fun e => h a rfl (by rw [e])
      funext k
      simp only [putF]
      by_cases h1 : b = k
      · subst h1; simp [hne]
      · simp [h1]
/-- One taken out of its place. -/
theorem Runs.pull {ops : Array Oper} : ∀ {pre : List Pen} {p : Pen} {post : List Pen} {f g : Tf}, (∀ q ∈ pre, q.o.apart ops p.o = true) → Runs ops f (pre ++ p :: post) g → Cnd ops f p.o p.b p.xs ∧ Runs ops (putF f p.o.dst p.v) (pre ++ post) g
  | [], p, post, f, g, _, h => h
  | q :: pre, p, post, f, g, ha, h => by
    obtain ⟨h1, h2⟩ := h
    obtain ⟨h3, h4⟩ := Runs.pull (fun x hx => ha x (List.mem_cons_of_mem _ hx)) h2
    obtain ⟨a1, a2, a3⟩ := Oper.apart_spec (ha q List.mem_cons_self)
    refine ⟨h3.congr fun t ht => putF_other fun e => a1 t e ht, h1.congr fun t ht => (putF_other fun e => a3 t e ht).symm, ?_⟩
    rw [putF_comm fun t e e2 => a2 t e2 e]
    exact h4
/-- What doesn't load doesn't hang on the memory. -/
theorem aq_ob {O : Num} {op : Op} (h : isLoad op = false) (xs : List AV) (ob ob' : List Ent) : aq O T op xs ob = aq O T op xs ob' := by
  cases op <;> first | (simp [isLoad] at h; done) | (unfold aq; split <;> first | rfl | simp_all)
theorem find_cons (e : Ent) (ob : List Ent) (ix : Nat) : find (e :: ob) ix = if e.ix = ix then some e else find ob ix := by
  rw [find]
  by_cases h : e.ix = ix
  · simp [h]
  · have : eqb e.ix ix = false := by
      cases h2 : eqb e.ix ix with
      | false => rfl
      | true => exact (h (eqb_eq h2)).elim
    simp [this, h]
theorem aload_fresh {O : Num} {e : Ent} {ob : List Ent} (hf : find ob e.ix = none) {t : TypeId} {p : AV} {r : List Bool × AV} (h : aload O T t p ob = some r) : aload O T t p (e :: ob) = some r := by
  have key : ∀ ix x, find ob ix = some x → find (e :: ob) ix = some x := fun ix x hx => by
    rw [find_cons, if_neg (fun h => by rw [h] at hf; rw [hf] at hx; cases hx)]
    exact hx
  unfold aload at h ⊢
  cases hi : tget T t with
  | none => simp [hi] at h
  | some i =>
    simp only [hi] at h ⊢
    cases p <;> try exact h
    case ptr ix bs off =>
      simp only at h ⊢
      cases hx : find ob ix with
      | none => simp [hx] at h
      | some x => rw [key ix x hx]; rw [hx] at h; exact h
    case rptr ix bs st j off =>
      simp only at h ⊢
      cases hx : find ob ix with
      | none => simp [hx] at h
      | some x => rw [key ix x hx]; rw [hx] at h; exact h
theorem aq_fresh {O : Num} {e : Ent} {ob : List Ent} (hf : find ob e.ix = none) {op : Op} {xs : List AV} {r : List Bool × AV} (h : aq O T op xs ob = some r) : aq O T op xs (e :: ob) = some r := by
  cases hl : isLoad op with
  | false => rw [aq_ob hl xs (e :: ob) ob]; exact h
  | true =>
    cases op <;> first | (simp [isLoad] at hl; done) | skip
    rename_i t a
    cases xs with
    | nil => simp [aq] at h
    | cons x xs =>
      cases xs with
      | cons => simp [aq] at h
      | nil => exact aload_fresh hf h
end
end Go.Proofs.Ytckkcgkgfkgfdaa.AM
