/- Steps of code over an abstract memory. Plain words and laws; no condition. -/
import Derived.Test.YtckkcgkgfkgfdaaAmL
import Derived.Test.YtckkcgkgfkgfdaaPar
set_option linter.unusedVariables false
set_option linter.unusedSimpArgs false
namespace Go.Proofs.Ytckkcgkgfkgfdaa.AM
open Go.Proofs.Ytckkcgkgfkgfdaa.Par (reach reach_ready depB backB wpAny_inv permB set_upd upd getD_tf)
universe u
structure St : Type 1 where
  tm : List (Nat × AV)
  ob : List Ent
  nx : Nat
def tmget : List (Nat × AV) → Nat → Option AV
  | [], _ => none
  | (k, v) :: r, t => match eqb k t with | true => some v | false => tmget r t
def aopd (tm : List (Nat × AV)) : Operand → Option AV
  | .tmp t => tmget tm t
  | .const v => some (ofVal v)
  | .func f => some (.fn (.func f) [])
  | .global _ => none
def aopds (tm : List (Nat × AV)) : List Operand → Option (List AV)
  | [] => some []
  | x :: r => match aopd tm x, aopds tm r with
    | some v, some vs => some (v :: vs)
    | _, _ => none
def awant (ops : List Oper) (tm : List (Nat × AV)) : Option (Nat × Bool) → Option Bool
  | none => some true
  | some (j, want) => match lget ops j with
    | some o => match o.dst with
      | some d => match tmget tm d with
        | some (.bool b) => some (bif want then b else (bif b then false else true))
        | some (.val (.tuple _)) => some false
        | _ => none
      | none => none
    | none => none
def tput (N : Nat) (tm : List (Nat × AV)) (d : Option Nat) (v : AV) : Option (List (Nat × AV)) :=
  match d with
  | none => some tm
  | some t => bif ltb t N then some ((t, v) :: tm) else none
def allc : List Bool → Prop → Prop
  | [], K => K
  | c :: cs, K => c = true ∧ allc cs K
theorem allc_iff : ∀ {cs : List Bool} {K : Prop}, allc cs K ↔ (∀ c ∈ cs, c = true) ∧ K
  | [], K => by simp [allc]
  | c :: cs, K => by
    rw [allc, allc_iff]
    simp [and_assoc]
/-- The names of what operations make: by the temporary. -/
def nmOf (nm : List (Nat × Nat)) : Option Nat → Nat
  | none => 999
  | some d => match nm with
    | [] => 1000 + d
    | (k, i) :: r => match eqb k d with | true => i | false => nmOf r (some d)
def Enters (P : Program) (f : FuncId) : Prop := ∃ fn, P.funcs[f]? = some fn ∧ fn.body.isNone = false ∧ (fn.name == "runtime.NumGoroutine") = false
/-- A call in a world: entered, or a value at once. -/
def CallRes (P : Program) (f : FuncId) (vs : Array Value) (w : World) (R : Ending → World → Prop) : Prop :=
  (Enters P f ∧ Calls P f vs w R) ∨ ∃ v, (callFunc f vs).run P w = .ok (.value v) w ∧ R (.returned v) w
def CPost (φ : Phi) (H : Nat → Prop) (F : Fr) (nx : Nat) (w : World) (Q : AV → List Ent → Nat → Prop) : Ending → World → Prop
  | .returned v, w' => ∃ r ob' nx' φ' H', Q r ob' nx' ∧ Ext φ H F nx w φ' H' nx' w' ∧ Rel φ' H' F ob' nx' w' ∧ VR φ' H' w' r v
  | .panicked _, _ => False
  | .outgrown, _ => False
/-- What a call comes to, over an abstract memory. -/
structure ACalls (P : Program) (f : FuncId) (args : List AV) (ob : List Ent) (nx : Nat) (Q : AV → List Ent → Nat → Prop) : Prop where
  go : ∀ φ H F w vs, Rel φ H F ob nx w → VRs φ H w args vs → CallRes P f vs.toArray w (CPost φ H F nx w Q)
section
variable (P : Program) (O : Num) (T : Tab)
def isQ : Op → Bool
  | .store .. => false
  | .alloc _ => false
  | .box .. => false
  | .buildSlice .. => false
  | .makeSlice .. => false
  | .call ⟨.value _, _, _⟩ => false
  | .call ⟨.invoke _ _, _, _⟩ => false
  | .call ⟨.builtin .append, _, _⟩ => false
  | _ => true
def isAl : Op → Bool
  | .alloc _ => true
  | .box .. => true
  | .buildSlice .. => true
  | .makeSlice .. => true
  | _ => false
/-- An operation that turns the memory or calls. -/
def ach (op : Op) (xs : List AV) (ob : List Ent) (nx ix : Nat) (K : AV → List Ent → Nat → Prop) : Prop :=
  match op, xs with
  | .store t _ _, [p, v] => match astore O T t p v ob with
    | some (cs, ob') => allc cs (K (.val undef) ob' nx)
    | none => False
  | .call ⟨.value _, _, _⟩, .fn (.func f) caps :: args => ACalls P f (args ++ caps) ob nx K
  | .call ⟨.builtin .append, _, ts⟩, [b, x] => match aapp O T ts.toList b x ob ix nx with
    | some (cs, v, ob') => allc cs (K v ob' (.succ nx))
    | none => False
  | _, _ => False
/-- A row beside nil: what both answers come to, where both may be. -/
def anilK (x : AV) (K : Bool → Prop) : Prop :=
  match x with
  | .list st _ _ l => match eqb st 0 with | true => False | false => (O.nlt 0 (O.len l) = true ∨ K true) ∧ K false
  | .mlist st _ _ α _ _ l => match eqb st 0 with | true => False | false => (O.nlt 0 (O.mlen α l) = true ∨ K true) ∧ K false
  | .own _ _ _ _ n => (O.nlt 0 n = true ∨ K true) ∧ K false
  | .val (.slice none 0 0) => K true
  | _ => False
def anil (op : Op) (xs : List AV) (K : Bool → Prop) : Prop :=
  match op with
  | .binOp bop t _ _ _ => match xs with
    | [x, .val (.slice none 0 0)] => match tget T t with
      | some ⟨.slice _, _, _, _, _⟩ => match bop with
        | .eql => anilK O x K
        | .neq => anilK O x fun b => match b with | true => K false | false => K true
        | _ => False
      | _ => False
    | _ => False
  | _ => False
def astep (op : Op) (xs : List AV) (ob : List Ent) (nx ix : Nat) (K : AV → List Ent → Nat → Prop) : Prop :=
  match isQ op with
  | true => match aq O T op xs ob with
    | some (cs, v) => allc cs (K v ob nx)
    | none => anil O T op xs fun b => K (.bool b) ob nx
  | false => match isAl op with
    | true => match aal O T op xs ix nx with
      | some (cs, b, v) => allc cs (K v (⟨ix, nx, b⟩ :: ob) (.succ nx))
      | none => False
    | false => ach P O T op xs ob nx ix K
end
section
variable {φ : Phi} {H : Nat → Prop} {F : Fr} {w : World} {ob : List Ent} {nx : Nat} {P : Program} {T : Tab}
def TmR (φ : Phi) (H : Nat → Prop) (w : World) (f : Nat → Option AV) (a : Act) : Prop := ∀ t v, f t = some v → ∃ u, a.tmps[t]? = some u ∧ VR φ H w v u
theorem aopd_ok {tm : List (Nat × AV)} {a : Act} (h : TmR φ H w (tmget tm) a) {x : Operand} {v : AV} (hx : aopd tm x = some v) : VR φ H w v (a.eval x) := by
  cases x with
  | tmp t =>
    obtain ⟨u, hu, hr⟩ := h t v hx
    simpa [Act.eval, hu] using hr
  | const c =>
    simp [aopd] at hx
    subst hx
    exact vr_ofVal c
  | func f =>
    simp [aopd] at hx
    subst hx
    exact ⟨[], rfl, rfl⟩
  | global g => simp [aopd] at hx
theorem aopds_ok {tm : List (Nat × AV)} {a : Act} (h : TmR φ H w (tmget tm) a) : ∀ {l : List Operand} {vs : List AV}, aopds tm l = some vs → VRs φ H w vs (l.map a.eval)
  | [], vs, hx => by
    simp [aopds] at hx
    subst hx
    exact rfl
  | x :: l, vs, hx => by
    rw [aopds] at hx
    cases h1 : aopd tm x with
    | none => simp [h1] at hx
    | some v =>
      cases h2 : aopds tm l with
      | none => simp [h1, h2] at hx
      | some r =>
        simp [h1, h2] at hx
        subst hx
        exact ⟨_, _, rfl, aopd_ok h h1, aopds_ok h h2⟩
theorem lget_of {α : Type u} : ∀ {l : List α} {n : Nat}, lget l n = l[n]?
  | [], n => by cases n <;> rfl
  | a :: l, 0 => rfl
  | a :: l, n + 1 => by rw [lget, lget_of]; rfl
theorem awant_ok {ops : Array Oper} {tm : List (Nat × AV)} {a : Act} (h : TmR φ H w (tmget tm) a) {o : Oper} {b : Bool} (hw : awant ops.toList tm o.guard = some b) : Region.wanted o (yielded ops a.tmps) = b := by
  unfold Region.wanted
  cases hg : o.guard with
  | none => rw [hg] at hw; simpa [awant] using hw
  | some g =>
    obtain ⟨j, want⟩ := g
    rw [hg] at hw
    simp only [awant, lget_of, Array.getElem?_toList] at hw
    cases hj : ops[j]? with
    | none => simp [hj] at hw
    | some oj =>
      cases hd : oj.dst with
      | none => simp [hj, hd] at hw
      | some d =>
        simp only [hj, hd] at hw
        cases ht : tmget tm d with
        | none => simp [ht] at hw
        | some v =>
          cases v <;> simp only [ht] at hw <;> try (cases hw; done)
          · rename_i c
            obtain ⟨u, hu, hr⟩ := h d _ ht
            have hr : u = .bool c := hr
            subst hr
            simp only [yielded, hj, Option.bind_some, hd, hu]
            cases want <;> cases c <;> simp at hw <;> simp [hw]
          · rename_i z
            obtain ⟨u, hu, hr⟩ := h d _ ht
            have hr : u = z := hr
            subst hr
            cases u <;> simp only [reduceCtorEq, Option.some.injEq] at hw
            subst hw
            simp [yielded, hj, hd, hu]
theorem callFunc_enter {f : FuncId} (h : Enters P f) (vs : Array Value) : (callFunc f vs).run P w = .ok (.enter f vs) w := by
  obtain ⟨fn, h1, h2, h3⟩ := h
  have h3' : ¬ fn.name = "runtime.NumGoroutine" := by simpa using h3
  have h2' : ¬ fn.body = none := fun e => by rw [e] at h2; cases h2
  simp [callFunc, h1, h2', h3']
/-- What an operation leaves: its value, the memory. -/
def StepR (φ : Phi) (H : Nat → Prop) (F : Fr) (nx : Nat) (w : World) (o : Oper) (a : Act) (K : AV → List Ent → Nat → Prop) : Act → World → Prop := fun a' w' =>
  ∃ v u ob' nx' φ' H', a' = a.put o.dst u ∧ K v ob' nx' ∧ Ext φ H F nx w φ' H' nx' w' ∧ Rel φ' H' F ob' nx' w' ∧ VR φ' H' w' v u
theorem wp_value {o : Oper} {a : Act} {K : Act → World → Prop} {Q : Exit → Act → World → Prop} {u : Value} {w' : World} (h : (execOp a.eval o).run P w = .ok (.value u) w') (hk : K (a.put o.dst u) w') : o.wp P a w K Q := by
  unfold Oper.wp
  rw [h]
  exact hk
theorem ach_ok (hT : TabOk P T) (hR : Rel φ H F ob nx w) {o : Oper} {a : Act} {xs : List AV} (hx : VRs φ H w xs ((opds o.op).map a.eval)) {ix : Nat} {K : AV → List Ent → Nat → Prop} (h : ach P real T o.op xs ob nx ix K) {Q : Exit → Act → World → Prop} :
    o.wp P a w (StepR φ H F nx w o a K) Q ∨ (o.asks P a w ∧ LetsOut Q) := by
  obtain ⟨dst, op, ty, pos, aft, g⟩ := o
  simp only at hx h
  unfold ach at h
  split at h
  · rename_i t x y p v
    obtain ⟨u1, _, e1, h1, u2, _, e2, h2, e3⟩ := hx
    have e3 : _ = [] := e3
    subst e3; subst e2
    simp [opds] at e1
    cases hs : astore real T t p v ob with
    | none => simp [hs] at h
    | some r =>
      obtain ⟨cs, ob'⟩ := r
      simp only [hs] at h
      obtain ⟨hc, hK⟩ := allc_iff.1 h
      obtain ⟨w', hrun, hext, hrel⟩ := astore_ok hT hR h1 h2 hs hc
      left
      unfold Oper.wp execOp
      simp only [e1.1, e1.2, Sem.run_bind, hrun, Result.andThen_ok, Sem.run_pure]
      exact ⟨_, undef, _, _, _, _, rfl, hK, hext, hrel, rfl⟩
  · rename_i fo args ts f caps args'
    obtain ⟨u1, us', e1, h1, h2⟩ := hx
    obtain ⟨cu, rfl, h3⟩ := h1
    simp [opds] at e1
    obtain ⟨e1, rfl⟩ := e1
    have hres := h.go φ H F w (args.toList.map a.eval ++ cu) hR (vrs_append h2 h3)
    have hargs : args.map a.eval ++ cu.toArray = (args.toList.map a.eval ++ cu).toArray := by apply Array.ext'; simp
    left
    unfold Oper.wp
    have hexec : (execOp a.eval ⟨dst, .call ⟨.value fo, args, ts⟩, ty, pos, aft, g⟩).run P w = (callFunc f (args.toList.map a.eval ++ cu).toArray).run P w := by
      simp only [execOp, resolve, e1, Deferred.ofValue, Sem.run_bind, Sem.run_pure, Result.andThen_ok, invoke]
      rw [show (#[] ++ Array.map a.eval args : Array Value) = Array.map a.eval args by simp, hargs]
    rw [hexec]
    rcases hres with ⟨hent, hcalls⟩ | ⟨v, hrun, hpost⟩
    · rw [callFunc_enter hent]
      simp only [Oper.upon]
      refine Calls.mono hcalls fun e w'' he => ?_
      cases e with
      | returned v =>
        obtain ⟨r, ob', nx', φ', H', q1, q2, q3, q4⟩ := he
        exact ⟨r, v, ob', nx', φ', H', rfl, q1, q2, q3, q4⟩
      | panicked c => exact he.elim
      | outgrown => exact he.elim
    · rw [hrun]
      obtain ⟨r, ob', nx', φ', H', q1, q2, q3, q4⟩ := hpost
      exact ⟨r, v, ob', nx', φ', H', rfl, q1, q2, q3, q4⟩
  · rename_i args ts b x
    cases hs : aapp real T ts.toList b x ob ix nx with
    | none => simp [hs] at h
    | some r =>
      obtain ⟨cs, v, ob'⟩ := r
      simp only [hs] at h
      obtain ⟨hc, hK⟩ := allc_iff.1 h
      obtain ⟨u1, _, e1, h1, u2, _, e2, h2, e3⟩ := hx
      have e3 : _ = [] := e3
      subst e3; subst e2
      have e1 : args.toList.map a.eval = [u1, u2] := e1
      obtain ⟨t, hts, hg⟩ := aapp_ok hT hR h1 h2 hs hc ty
      have hts' : ts = #[t, t] := by apply Array.ext'; simpa using hts
      subst hts'
      have hargs : args.map a.eval = #[u1, u2] := by
        apply Array.ext'
        rw [Array.toList_map]
        exact e1
      obtain ⟨y1, y2, rfl⟩ : ∃ y1 y2, args = #[y1, y2] := by
        have hl : args.toList.length = 2 := by have := congrArg List.length e1; rw [List.length_map] at this; exact this
        match hh : args.toList, hl with
        | [y1, y2], _ => exact ⟨y1, y2, by apply Array.ext'; simpa using hh⟩
      have hy : a.eval y1 = u1 ∧ a.eval y2 = u2 := by
        have e2 : [a.eval y1, a.eval y2] = [u1, u2] := e1
        injection e2 with e3 e4
        injection e4 with e5 _
        exact ⟨e3, e5⟩
      rcases hg with ⟨u, w', φ', hrun, hext, hrel, hvr⟩
      · left
        unfold Oper.wp execOp
        simp only [resolve, invoke, builtin, Sem.run_bind, Sem.run_pure, Result.andThen_ok, hargs, hrun]
        exact ⟨v, u, ob', _, φ', H, rfl, hK, hext, hrel, hvr⟩
  · exact h.elim
theorem anilK_ok {x : AV} {u : Value} (hu : VR φ H w x u) {K : Bool → Prop} (h : anilK real x K) : ∃ a n cap, u = .slice a n cap ∧ K a.isNone := by
  unfold anilK at h
  split at h
  · rename_i st gd fu l
    obtain ⟨us, h1, a, n, cap, rfl, h2, h3, _, h5, h6, _⟩ := hu
    refine ⟨a, n, cap, rfl, ?_⟩
    cases hs : eqb st 0 with
    | true => simp [hs] at h
    | false =>
      rw [hs] at h
      dsimp only at h
      cases a with
      | some => exact h.2
      | none =>
        rcases h.1 with k | k
        · exfalso
          rcases h6 with h6 | ⟨_, h6, _⟩
          · have hl := fl_len h5
            rw [h6] at hl
            have hn := vrs_len h1
            have hk : 0 < l.length := by simpa [real] using k
            have hz : st ≠ 0 := fun e => by subst e; simp at hs
            have := Nat.mul_pos (show 0 < us.length by omega) (Nat.pos_of_ne_zero hz)
            simp at hl
            omega
          · cases h6
        · exact k
  · rename_i st gd fu α enc d l
    obtain ⟨us, h1, _, a, n, cap, rfl, h2, h3, _, h5, h6, _⟩ := hu
    refine ⟨a, n, cap, rfl, ?_⟩
    cases hs : eqb st 0 with
    | true => simp [hs] at h
    | false =>
      rw [hs] at h
      dsimp only at h
      cases a with
      | some => exact h.2
      | none =>
        rcases h.1 with k | k
        · exfalso
          rcases h6 with h6 | ⟨_, h6, _⟩
          · have hl := fl_len h5
            rw [h6] at hl
            have hk : 0 < l.length := by simpa [real] using k
            have hz : st ≠ 0 := fun e => by subst e; simp at hs
            have := Nat.mul_pos (show 0 < us.length by omega) (Nat.pos_of_ne_zero hz)
            simp at hl
            omega
          · cases h6
        · exact k
  · rcases hu with ⟨b, o, cap, T, N, _, rfl, _⟩ | ⟨rfl, a, rfl, _⟩
    · exact ⟨_, _, _, rfl, h.2⟩
    · refine ⟨_, _, _, rfl, ?_⟩
      cases a with
      | some => exact h.2
      | none =>
        rcases h.1 with k | k
        · simp [real] at k
        · exact k
  · have hu : u = .slice none 0 0 := hu
    exact ⟨_, _, _, hu, h⟩
  · exact h.elim
theorem anil_ok (hT : TabOk P T) {o : Oper} {a : Act} {xs : List AV} (hx : VRs φ H w xs ((opds o.op).map a.eval)) {K : Bool → Prop} (h : anil real T o.op xs K) : ∃ b, K b ∧ (execOp a.eval o).run P w = .ok (.value (.bool b)) w := by
  obtain ⟨dst, op, ty, pos, aft, g⟩ := o
  simp only at hx h
  unfold anil at h
  split at h
  · rename_i bop t X Y rt
    split at h
    · rename_i x
      obtain ⟨u, _, e1, h1, v, _, e2, h2, e3⟩ := hx
      have e3 : _ = [] := e3
      subst e3; subst e2
      simp [opds] at e1
      have hv : v = .slice none 0 0 := h2
      subst hv
      split at h
      · rename_i e _ _ _ _ hi
        have hund := hT.und hi
        have run : ∀ (s : Option Addr) (n cap : Nat) d, (Op.equalIn (d + 1) t (.slice s n cap) (.slice none 0 0)).run P w = .ok s.isNone w := fun s n cap d => by cases s <;> simp [Op.equalIn, run_underlying hund]
        split at h
        · obtain ⟨s, n, cap, rfl, hk⟩ := anilK_ok h1 h
          have := run s n cap 9999
          refine ⟨_, hk, ?_⟩
          simp only [execOp, e1.1, e1.2, eqGuard]
          simp [binOp, Op.equal, Op.maxDepth, this]
        · obtain ⟨s, n, cap, rfl, hk⟩ := anilK_ok h1 h
          have := run s n cap 9999
          refine ⟨!s.isNone, by cases hb : s.isNone <;> rw [hb] at hk <;> simpa using hk, ?_⟩
          simp only [execOp, e1.1, e1.2, eqGuard]
          simp [binOp, Op.equal, Op.maxDepth, this]
        · exact h.elim
      · exact h.elim
    · exact h.elim
  · exact h.elim
theorem astep_ok (hT : TabOk P T) (hR : Rel φ H F ob nx w) {o : Oper} {a : Act} {xs : List AV} (hx : VRs φ H w xs ((opds o.op).map a.eval)) {ix : Nat} {K : AV → List Ent → Nat → Prop} (h : astep P real T o.op xs ob nx ix K) {Q : Exit → Act → World → Prop} :
    o.wp P a w (StepR φ H F nx w o a K) Q ∨ (o.asks P a w ∧ LetsOut Q) := by
  unfold astep at h
  cases h1 : isQ o.op with
  | true =>
    rw [h1] at h
    dsimp only at h
    cases hq : aq real T o.op xs ob with
    | none =>
      simp only [hq] at h
      obtain ⟨b, hK, hrun⟩ := anil_ok hT hx h
      exact .inl (wp_value hrun ⟨.bool b, .bool b, ob, nx, φ, H, rfl, hK, Ext.refl _ _ _ _ _, hR, rfl⟩)
    | some r =>
      obtain ⟨cs, v⟩ := r
      simp only [hq] at h
      obtain ⟨hc, hK⟩ := allc_iff.1 h
      obtain ⟨u, hrun, hvr⟩ := aq_ok hT hR o hx hq hc
      exact .inl (wp_value hrun ⟨v, u, ob, nx, φ, H, rfl, hK, Ext.refl _ _ _ _ _, hR, hvr⟩)
  | false =>
    rw [h1] at h
    dsimp only at h
    cases h2 : isAl o.op with
    | true =>
      rw [h2] at h
      dsimp only at h
      cases hq : aal real T o.op xs ix nx with
      | none => simp [hq] at h
      | some r =>
        obtain ⟨cs, b, v⟩ := r
        simp only [hq] at h
        obtain ⟨hc, hK⟩ := allc_iff.1 h
        obtain ⟨c, e, u, hrun, ho, hv⟩ := aal_ok hT o hx hq hc
        exact .inl (wp_value hrun ⟨v, u, _, _, _, H, rfl, hK, hR.ext_alloc ix _, hR.alloc ix ho, hv _ _ (upd_self _ _ _ _)⟩)
    | false =>
      rw [h2] at h
      dsimp only at h
      exact ach_ok hT hR hx h
end
end Go.Proofs.Ytckkcgkgfkgfdaa.AM
