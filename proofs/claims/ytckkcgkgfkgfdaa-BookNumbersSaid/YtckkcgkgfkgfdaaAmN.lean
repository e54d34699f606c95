/- Code over an abstract memory: regions in their order, branches, loops, calls. Plain words and laws; no condition. -/
import Derived.Test.YtckkcgkgfkgfdaaAmM
set_option linter.unusedSimpArgs false
namespace Go.Proofs.Ytckkcgkgfkgfdaa.AM
open Go.Proofs.Ytckkcgkgfkgfdaa.Par (reach depB backB permB)
/-- A region that draws its order: an order, what turns the memory in it, what is to be looked at again behind each of those. -/
structure Plan where
  id : Nat
  order : List Nat
  chs : List Nat
  rc : List (Nat × List Nat)
def plget : List Plan → Nat → Option Plan
  | [], _ => none
  | p :: r, i => match eqb p.id i with | true => some p | false => plget r i
def hasN : List Nat → Nat → Bool
  | [], _ => false
  | x :: r, i => match eqb x i with | true => true | false => hasN r i
def rcOf : List (Nat × List Nat) → Nat → List Nat
  | [], _ => []
  | (k, l) :: r, i => match eqb k i with | true => l | false => rcOf r i
/-- What has come up ahead. -/
structure Pen : Type 1 where
  i : Nat
  o : Oper
  b : Bool
  xs : List AV
  cs : List Bool
  v : AV
  al : Option (Ob × Nat × Nat)
def isLoad : Op → Bool
  | .load .. => true
  | _ => false
structure SRel (N : Nat) (φ : Phi) (H : Nat → Prop) (F : Fr) (s : St) (a : Act) (w : World) : Prop where
  rel : Rel φ H F s.ob s.nx w
  defs : a.defers = []
  sz : N ≤ a.tmps.size
  tm : TmR φ H w (tmget s.tm) a
/-- What may be said of a memory instead. -/
def Sf (s s2 : St) : Prop := ∀ N φ H F a w, SRel N φ H F s a w → ∃ φ' H', Ext φ H F s.nx w φ' H' s2.nx w ∧ SRel N φ' H' F s2 a w
section
variable (P : Program) (O : Num) (T : Tab) (N : Nat) (nm : List (Nat × Nat)) (pl : List Plan)
/-- A guard's condition, and what is wanted of it. -/
def gcond (ops : List Oper) (tm : List (Nat × AV)) : Option (Nat × Bool) → Option (Bool × Bool)
  | none => some (true, true)
  | some (j, want) => match lget ops j with
    | some o => match o.dst with
      | some d => match tmget tm d with
        | some (.bool b) => some (b, want)
        | some (.val (.tuple _)) => some (false, true)
        | _ => none
      | none => none
    | none => none
def gsel (c : Option (Bool × Bool)) (x y : Unit → Prop) : Prop :=
  match c with
  | none => False
  | some (b, w) => match w with
    | true => match b with | true => x () | false => y ()
    | false => match b with | true => y () | false => x ()
theorem gsel_eq (ops : List Oper) (tm : List (Nat × AV)) (g : Option (Nat × Bool)) (x y : Unit → Prop) : gsel (gcond ops tm g) x y = (match awant ops tm g with
    | none => False
    | some b => match b with
      | true => x ()
      | false => y ()) := by
  unfold gsel gcond awant
  cases g with
  | none => rfl
  | some g =>
    obtain ⟨j, want⟩ := g
    dsimp only
    cases lget ops j with
    | none => rfl
    | some o =>
      dsimp only
      cases o.dst with
      | none => rfl
      | some d =>
        dsimp only
        cases tmget tm d with
        | none => rfl
        | some v =>
          cases v with
          | bool b => cases want <;> cases b <;> rfl
          | val z => cases z <;> rfl
          | _ => rfl
def Pen.chk (p : Pen) (ob : List Ent) : Prop :=
  match p.al with
  | some (b, ix, nx) => find ob ix = some ⟨ix, nx, b⟩
  | none => match (bif p.b then isLoad p.o.op else false) with | true => aq O T p.o.op p.xs ob = some (p.cs, p.v) | false => True
def stab (l : List Nat) (ob : List Ent) : List Pen → Prop
  | [] => True
  | p :: r => match hasN l p.i with | true => p.chk O T ob ∧ stab l ob r | false => stab l ob r
def aseq0 (ops : List Oper) : List Oper → St → (St → Prop) → Prop
  | [], s, Q => Q s
  | o :: r, s, Q => gsel (gcond ops s.tm o.guard)
      (fun _ => match aopds s.tm (opds o.op) with
        | none => False
        | some xs => astep P O T o.op xs s.ob s.nx (nmOf nm o.dst) fun v ob' nx' => match tput N s.tm o.dst v with
          | some tm' => aseq0 ops r ⟨tm', ob', nx'⟩ Q
          | none => False)
      (fun _ => match tput N s.tm o.dst (.val undef) with
        | some tm' => aseq0 ops r ⟨tm', s.ob, s.nx⟩ Q
        | none => False)
def aseqD (ops : List Oper) (p : Plan) : List Nat → List Pen → St → (St → Prop) → Prop
  | [], _, s, Q => Q s
  | i :: is, pd, s, Q => match lget ops i with
    | none => False
    | some o => gsel (gcond ops s.tm o.guard)
        (fun _ => match aopds s.tm (opds o.op) with
          | none => False
          | some xs => match isQ o.op with
            | true => match hasN p.chs i with
              | true => False
              | false => match aq O T o.op xs s.ob with
                | none => False
                | some (cs, v) => match tput N s.tm o.dst v with
                  | none => False
                  | some tm' => allc cs (aseqD ops p is (⟨i, o, true, xs, cs, v, none⟩ :: pd) ⟨tm', s.ob, s.nx⟩ Q)
            | false => match isAl o.op with
              | true => match hasN p.chs i with
                | true => False
                | false => match find s.ob (nmOf nm o.dst), aal O T o.op xs (nmOf nm o.dst) s.nx with
                  | some _, _ => False
                  | none, none => False
                  | none, some (cs, b, v) => match tput N s.tm o.dst v with
                    | none => False
                    | some tm' => allc cs (aseqD ops p is (⟨i, o, true, xs, cs, v, some (b, nmOf nm o.dst, s.nx)⟩ :: pd) ⟨tm', ⟨nmOf nm o.dst, s.nx, b⟩ :: s.ob, .succ s.nx⟩ Q)
              | false => match hasN p.chs i with
                | true => ach P O T o.op xs s.ob s.nx (nmOf nm o.dst) fun v ob' nx' => stab O T (rcOf p.rc i) ob' pd ∧ match tput N s.tm o.dst v with
                  | some tm' => aseqD ops p is pd ⟨tm', ob', nx'⟩ Q
                  | none => False
                | false => False)
        (fun _ => match tput N s.tm o.dst (.val undef) with
          | some tm' => match hasN p.chs i with
            | true => aseqD ops p is pd ⟨tm', s.ob, s.nx⟩ Q
            | false => aseqD ops p is (⟨i, o, false, [], [], .val undef, none⟩ :: pd) ⟨tm', s.ob, s.nx⟩ Q
          | none => False)
/-- A number as any other. -/
def unlit : AV → AV
  | .int _ k n => .int false k n
  | v => v
def keepT (tm : List (Nat × AV)) : List Nat → List (Nat × AV)
  | [] => []
  | t :: r => match tmget tm t with
    | some v => (t, unlit v) :: keepT tm r
    | none => keepT tm r
def keepO : List Ent → List Nat → List Ent
  | _, [] => []
  | ob, i :: r => match find ob i with
    | some e => e :: keepO (delOb ob i) r
    | none => keepO ob r
def St.keep (s : St) (ts is : List Nat) : St := ⟨keepT s.tm ts, keepO s.ob is, s.nx⟩
def seqK (n : St → Prop) (Q : Exit → St → Prop) : Exit → St → Prop
  | .normal, s => n s
  | .exit i, s => Q (.exit i) s
  | .goto l, s => Q (.goto l) s
  | .ret, s => Q .ret s
  | .panic c, s => Q (.panic c) s
  | .outgrown, s => Q .outgrown s
def blockK (id : Nat) (Q : Exit → St → Prop) : Exit → St → Prop
  | .normal, s => Q .normal s
  | .exit i, s => match eqb i id with | true => Q .normal s | false => Q (.exit i) s
  | .goto l, s => Q (.goto l) s
  | .ret, s => Q .ret s
  | .panic c, s => Q (.panic c) s
  | .outgrown, s => Q .outgrown s
/-- A loop: what holds at its head (of these temporaries and objects, in whatever words), and what goes down. -/
structure WI (I : St → Prop) (s : St) : Prop where
  ex : ∃ s2, Sf s s2 ∧ I s2
structure WD (I : St → Prop) (μ : St → Nat) (n : Nat) (s : St) : Prop where
  ex : ∃ s2, Sf s s2 ∧ I s2 ∧ μ s2 < n
def loopP (body : (Exit → St → Prop) → St → Prop) (Q : Exit → St → Prop) (s : St) : Prop :=
  ∃ (ts is : List Nat) (I : St → Prop) (μ : St → Nat), WI I (s.keep ts is) ∧ ∀ s', I s' → body (seqK (fun s'' => WD I μ (μ s') (s''.keep ts is)) Q) s'
/-- A stop behind a region, for other words: where the plans name it (100000 and the region's number). -/
structure CUT (K : St → Prop) (s : St) : Prop where
  ex : ∃ s2, Sf s s2 ∧ K s2
def cutK (pl : List Plan) (id : Nat) (K : St → Prop) (s : St) : Prop :=
  match plget pl (100000 + id) with
  | some _ => CUT K s
  | none => K s
def awp : Code → (Exit → St → Prop) → St → Prop
  | .skip, Q, s => Q .normal s
  | .region id ops d, Q, s => match d with
    | true => match plget pl id with
      | some p => aseqD P O T N nm ops.toList p p.order [] s (cutK pl id (Q .normal))
      | none => False
    | false => aseq0 P O T N nm ops.toList ops.toList s (cutK pl id (Q .normal))
  | .seq a b, Q, s => awp a (seqK (awp b Q) Q) s
  | .cond c x y, Q, s => match aopd s.tm c with
    | some (.bool b) => match b with | true => awp x Q s | false => awp y Q s
    | _ => False
  | .block id c, Q, s => awp c (blockK id Q) s
  | .loop c, Q, s => loopP (awp c) Q s
  | .exit id, Q, s => Q (.exit id) s
  | .label _, Q, s => Q .normal s
  | .ret, Q, s => Q .ret s
  | _, _, _ => False
end
section
variable {P : Program} {T : Tab} {N : Nat} {nm : List (Nat × Nat)} {pl : List Plan}
def Post (N : Nat) (φ : Phi) (H : Nat → Prop) (F : Fr) (nx : Nat) (w : World) (Q : Exit → St → Prop) : Exit → Act → World → Prop
  | .panic _, _, _ => False
  | .outgrown, _, _ => False
  | e, a', w' => ∃ s' φ' H', Q e s' ∧ Ext φ H F nx w φ' H' s'.nx w' ∧ SRel N φ' H' F s' a' w'
def AW (P : Program) (N : Nat) (c : Code) (s : St) (Q : Exit → St → Prop) : Prop :=
  ∀ φ H F a w, SRel N φ H F s a w → c.wp P (Post N φ H F s.nx w Q) a w
theorem Post.of_ext {φ : Phi} {H : Nat → Prop} {F : Fr} {nx : Nat} {w : World} {φ' : Phi} {H' : Nat → Prop} {nx' : Nat} {w' : World} {Q : Exit → St → Prop} (h : Ext φ H F nx w φ' H' nx' w') : ∀ e a v, Post N φ' H' F nx' w' Q e a v → Post N φ H F nx w Q e a v := fun e a v k => by
  cases e with
  | panic => exact k
  | outgrown => exact k
  | normal => obtain ⟨s, p, q, h1, h2, h3⟩ := k; exact ⟨s, p, q, h1, h.trans h2, h3⟩
  | exit i => obtain ⟨s, p, q, h1, h2, h3⟩ := k; exact ⟨s, p, q, h1, h.trans h2, h3⟩
  | goto i => obtain ⟨s, p, q, h1, h2, h3⟩ := k; exact ⟨s, p, q, h1, h.trans h2, h3⟩
  | ret => obtain ⟨s, p, q, h1, h2, h3⟩ := k; exact ⟨s, p, q, h1, h.trans h2, h3⟩
theorem put_size (a : Act) (d : Option Nat) (u : Value) : (a.put d u).tmps.size = a.tmps.size := by cases d <;> simp [Act.put]
theorem put_defers (a : Act) (d : Option Nat) (u : Value) : (a.put d u).defers = a.defers := by cases d <;> rfl
theorem tmget_cons (k : Nat) (v : AV) (r : List (Nat × AV)) (t : Nat) : tmget ((k, v) :: r) t = if k = t then some v else tmget r t := by
  rw [tmget]
  by_cases h : k = t
  · subst h; simp
  · have : eqb k t = false := by
      cases h2 : eqb k t with
      | false => rfl
      | true => exact (h (eqb_eq h2)).elim
    simp [this, h]
theorem SRel.put {φ : Phi} {H : Nat → Prop} {F : Fr} {w : World} {s : St} {a : Act} (h : SRel N φ H F s a w) {φ' : Phi} {H' : Nat → Prop} {w' : World} (hu : Up φ H w φ' H' w') {d : Option Nat} {v : AV} {u : Value} (hv : VR φ' H' w' v u) {tm' : List (Nat × AV)}
    (ht : tput N s.tm d v = some tm') {ob' : List Ent} {nx' : Nat} (hr : Rel φ' H' F ob' nx' w') : SRel N φ' H' F ⟨tm', ob', nx'⟩ (a.put d u) w' := by
  refine ⟨hr, by rw [put_defers]; exact h.defs, by rw [put_size]; exact h.sz, fun t x hx => ?_⟩
  cases d with
  | none =>
    simp [tput] at ht
    subst ht
    obtain ⟨y, hy, hyr⟩ := h.tm t x hx
    exact ⟨y, hy, hu.vr _ _ hyr⟩
  | some d =>
    rw [tput] at ht
    cases hb : ltb d N with
    | false => simp [hb] at ht
    | true =>
      simp [hb] at ht
      subst ht
      have hlt : d < N := ltb_lt hb
      have hlt2 : d < a.tmps.size := Nat.lt_of_lt_of_le hlt h.sz
      rw [tmget_cons] at hx
      by_cases hdt : d = t
      · subst hdt
        rw [if_pos rfl] at hx
        cases hx
        exact ⟨u, by simp [Act.put, hlt2], hv⟩
      · rw [if_neg hdt] at hx
        obtain ⟨y, hy, hyr⟩ := h.tm t x hx
        refine ⟨y, ?_, hu.vr _ _ hyr⟩
        simp only [Act.put]
        rw [Array.getElem?_setIfInBounds_ne hdt]
        exact hy
theorem aseq0_ok (hT : TabOk P T) {ops : Array Oper} {Q : Exit → St → Prop} : ∀ (l : List Oper) (k : Nat) (s : St), ops.toList.drop k = l → aseq0 P real T N nm ops.toList l s (Q .normal) →
    ∀ φ H F a w, SRel N φ H F s a w → wpOps P ops (Post N φ H F s.nx w Q) (List.range' k l.length) a w
  | [], k, s, hl, h, φ, H, F, a, w, hs => by
    exact ⟨s, φ, H, h, Ext.refl _ _ _ _ _, hs⟩
  | o :: r, k, s, hl, h, φ, H, F, a, w, hs => by
    have hk : ops[k]? = some o := by
      have := congrArg (fun l => l[0]?) hl
      simpa using this
    have hr : ops.toList.drop (k + 1) = r := by
      have := congrArg List.tail hl
      simpa using this
    rw [List.length_cons, List.range'_succ, wpOps, hk]
    simp only
    rw [aseq0, gsel_eq] at h
    cases hw : awant ops.toList s.tm o.guard with
    | none => simp [hw] at h
    | some b =>
      rw [awant_ok hs.tm hw]
      simp only [hw] at h
      cases b with
      | false =>
        simp only [cond_false] at h
        rw [if_neg (by simp)]
        cases ht : tput N s.tm o.dst (.val undef) with
        | none => simp [ht] at h
        | some tm' =>
          simp only [ht] at h
          exact aseq0_ok hT r (k + 1) ⟨tm', s.ob, s.nx⟩ hr h φ H F _ w (hs.put (u := undef) (Up.refl _ _ _) (show VR φ H w (.val undef) undef from rfl) ht hs.rel)
      | true =>
        simp only [cond_true] at h
        rw [if_pos rfl]
        cases hx : aopds s.tm (opds o.op) with
        | none => simp [hx] at h
        | some xs =>
          simp only [hx] at h
          rcases astep_ok hT hs.rel (aopds_ok hs.tm hx) h (Q := Post N φ H F s.nx w Q) with h2 | h2
          · left
            refine Oper.wp_mono (fun a' w' hk => ?_) h2
            obtain ⟨v, u, ob', nx', φ', H', rfl, hK, hext, hrel, hvr⟩ := hk
            cases ht : tput N s.tm o.dst v with
            | none => simp [ht] at hK
            | some tm' =>
              simp only [ht] at hK
              have := aseq0_ok hT r (k + 1) ⟨tm', ob', nx'⟩ hr hK φ' H' F _ w' (hs.put hext.up hvr ht hrel)
              exact wpOps_mono (Post.of_ext hext) _ _ _ this
          · exact .inr h2
where
  wpOps_mono {ops : Array Oper} {Q Q' : Exit → Act → World → Prop} (h : ∀ e a w, Q e a w → Q' e a w) : ∀ (l : List Nat) (a : Act) (w : World), wpOps P ops Q l a w → wpOps P ops Q' l a w
    | [], a, w, k => h _ _ _ k
    | i :: l, a, w, k => by
      rw [wpOps] at k ⊢
      cases ho : ops[i]? with
      | none => rw [ho] at k; exact wpOps_mono h l a w k
      | some o =>
        rw [ho] at k
        simp only at k ⊢
        split
        · rename_i hw
          rw [if_pos hw] at k
          rcases k with k | ⟨k1, b, v, k2⟩
          · exact .inl (wp_monoQ h (fun a w hk => wpOps_mono h l a w hk) k)
          · exact .inr ⟨k1, b, v, h _ _ _ k2⟩
        · rename_i hw
          rw [if_neg hw] at k
          exact wpOps_mono h l _ _ k
  wp_monoQ {Q Q' : Exit → Act → World → Prop} (h : ∀ e a w, Q e a w → Q' e a w) {K K' : Act → World → Prop} (hk : ∀ a w, K a w → K' a w) {o : Oper} {a : Act} {w : World} (k : o.wp P a w K Q) : o.wp P a w K' Q' := by
    unfold Oper.wp at *
    generalize (execOp a.eval o).run P w = r at *
    cases r with
    | ok n w' =>
      cases n <;> simp only [Oper.upon] at k ⊢
      case value => exact hk _ _ k
      case skip => exact hk _ _ k
      case defer => exact hk _ _ k
      case enter f args =>
        refine Calls.mono k fun e w'' he => ?_
        cases e with
        | returned v => exact hk _ _ he
        | panicked c => exact h _ _ _ he
        | outgrown => obtain ⟨b, v, he⟩ := he; exact ⟨b, v, h _ _ _ he⟩
      case row => exact Rows.mono k fun _ _ he => hk _ _ he
    | halt x w' => cases x <;> simp only [Oper.upon] at k ⊢; exact h _ _ _ k
end
end Go.Proofs.Ytckkcgkgfkgfdaa.AM
