/- All operations that turn nothing: what they mean in a world. Plain laws; no condition. -/
import Derived.Test.YtckkcgkgfkgfdaaAmF
namespace Go.Proofs.Ytckkcgkgfkgfdaa.AM
universe u
section
variable {φ : Phi} {H : Nat → Prop} {F : Fr} {w : World} {ob : List Ent} {nx : Nat} {P : Program} {T : Tab}
theorem aun_ok {op : UnOp} {x : AV} {u : Value} (hu : VR φ H w x u) {cs : List Bool} {v : AV} (h : aun real op x = some (cs, v)) : ∃ z, (Op.unary op u).run P w = .ok z w ∧ VR φ H w v z := by
  unfold aun at h
  split at h
  · rename_i b
    have hu : u = .bool b := hu
    subst hu
    simp at h
    obtain ⟨rfl, rfl⟩ := h
    exact ⟨.bool (!b), by simp [Op.unary], by simp [VR, real]⟩
  · rename_i l k n
    have hu : u = .int k n := hu
    subst hu
    simp at h
    obtain ⟨rfl, rfl⟩ := h
    exact ⟨.int k (k.wrap (0 - n)), by simp [Op.unary, Op.intArith], by simp only [pk_real]; cases l <;> simp [VR, real]⟩
  · simp at h
theorem aconv_ok (hT : TabOk P T) {s d : TypeId} {x : AV} {u : Value} (hu : VR φ H w x u) {cs : List Bool} {v : AV} (h : aconv real T s d x = some (cs, v)) : ∃ z, (convert s d u).run P w = .ok z w ∧ VR φ H w v z := by
  unfold aconv at h
  split at h
  · rename_i si k _ _ _ _ l k' n hs hi
    have hu : u = .int k' n := hu
    subst hu
    simp at h
    obtain ⟨rfl, rfl⟩ := h
    have hund := hT.und hi
    exact ⟨.int k (k.wrap n), by simp [convert, run_underlying (hT.und hs), run_underlying hund, Conv.intToInt], by simp only [pk_real]; cases l <;> simp [VR, real]⟩
  · rename_i si k _ _ _ _ l k' n hs hi
    have hu : u = .int k' n := hu
    subst hu
    simp at h
    obtain ⟨rfl, rfl⟩ := h
    have hund := hT.und hi
    exact ⟨.float k (k.nearest n), by simp [convert, run_underlying (hT.und hs), run_underlying hund, Conv.intToFloat], by simp [VR, real]⟩
  · rename_i si _ _ _ _ sv hs hi
    have hu : u = .string sv := hu
    subst hu
    simp at h
    obtain ⟨rfl, rfl⟩ := h
    have hund := hT.und hi
    exact ⟨.string sv, by simp [convert, run_underlying (hT.und hs), run_underlying hund], rfl⟩
  · simp at h
theorem alen_ok (hT : TabOk P T) {t : TypeId} {x : AV} {u : Value} (hu : VR φ H w x u) {cs : List Bool} {v : AV} (h : alen real T t x = some (cs, v)) (ty : TypeId) :
    ∃ z, (Builtin.len_ #[t] ty #[u]).run P w = .ok z w ∧ VR φ H w v z := by
  have sl : (∃ e, P.underlying t = some (.slice e)) → ∀ a n c, (Builtin.len_ #[t] ty #[.slice a n c]).run P w = .ok (.int .i64 n) w := fun ⟨e, he⟩ a n c => by
    simp [Builtin.len_, run_underlying he, goInt]
  unfold alen at h
  split at h
  · rename_i n hi
    simp at h
    obtain ⟨rfl, rfl⟩ := h
    rcases hu with ⟨b, o, cap, N, M, hp, rfl, _⟩ | ⟨rfl, a, rfl, _⟩
    · exact ⟨_, sl ⟨_, hT.und hi⟩ _ _ _, by simp [VR, real]⟩
    · exact ⟨_, sl ⟨_, hT.und hi⟩ _ _ _, by simp [VR, real]⟩
  · rename_i l hi
    simp at h
    obtain ⟨rfl, rfl⟩ := h
    obtain ⟨us, hr, a, n, cap, rfl, hn, _⟩ := hu
    exact ⟨_, sl ⟨_, hT.und hi⟩ _ _ _, by have := vrs_len hr; simp [VR, real]; omega⟩
  · rename_i l hi
    simp at h
    obtain ⟨rfl, rfl⟩ := h
    obtain ⟨us, hl, hr, a, n, cap, rfl, hn, _⟩ := hu
    exact ⟨_, sl ⟨_, hT.und hi⟩ _ _ _, by simp [VR, real]; omega⟩
  · rename_i hi
    simp at h
    obtain ⟨rfl, rfl⟩ := h
    have hu : u = .slice none 0 0 := hu
    subst hu
    exact ⟨_, sl ⟨_, hT.und hi⟩ _ _ _, rfl⟩
  · rename_i s hi
    simp at h
    obtain ⟨rfl, rfl⟩ := h
    have hu : u = .string s := hu
    subst hu
    have hok := hT.und hi
    exact ⟨.int .i64 s.size, by simp [Builtin.len_, run_underlying hok, goInt], by simp [VR, real]⟩
  · simp at h
theorem aindex_ok (hT : TabOk P T) {t : TypeId} {x i : AV} {u y : Value} (hu : VR φ H w x u) (hy : VR φ H w i y) {cs : List Bool} {v : AV} (h : aindex real T t x i = some (cs, v)) (hc : ∀ c ∈ cs, c = true) :
    ∃ z, (Instr.index t u y).run P w = .ok z w ∧ VR φ H w v z := by
  unfold aindex at h
  split at h
  · rename_i _ _ _ _ s l k j hi
    have hu : u = .string s := hu
    have hy : y = .int k j := hy
    subst hu; subst hy
    simp at h
    obtain ⟨rfl, rfl⟩ := h
    obtain ⟨h0, h1⟩ := inb_of (hc _ List.mem_cons_self)
    have h1 : j < s.size := h1
    have hlt : j.toNat < s.size := by omega
    have hund := hT.und hi
    refine ⟨.int .u8 (s[j.toNat]).toNat, ?_, ?_⟩
    · simp [Instr.index, asIntOf, run_underlying hund, h0, hlt]
    · simp [VR, real, hlt]
  · simp at h
theorem foldl_set {α : Type u} : ∀ (l : List α) (k off : Nat) (cs : Array α), off + k + l.length ≤ cs.size →
    ((l.zipIdx k).foldl (fun cs (p : α × Nat) => cs.setIfInBounds (off + p.2) p.1) cs).toList = cs.toList.take (off + k) ++ l ++ cs.toList.drop (off + k + l.length)
  | [], k, off, cs, h => by simp
  | a :: l, k, off, cs, h => by
    simp only [List.zipIdx_cons, List.foldl_cons]
    rw [foldl_set l (k + 1) off _ (by simp at h ⊢; omega)]
    have hlt : off + k < cs.toList.length := by simp at h ⊢; omega
    simp only [Array.toList_setIfInBounds, List.length_cons]
    rw [show off + (k + 1) = off + k + 1 by omega, show off + k + 1 + l.length = off + k + (l.length + 1) by omega]
    rw [List.take_set, List.drop_set_of_lt (by omega)]
    rw [List.take_succ_eq_append_getElem hlt, List.set_append_right _ _ (by simp; omega)]
    simp [Nat.min_eq_left (Nat.le_of_lt (by simpa using hlt))]
theorem fill_ok {place : Nat → Option (Nat × Nat)} {cs : Array Value} {i : Nat} {v : Value} {rest : List (Nat × Value)} {off size : Nat} (hp : place i = some (off, size)) (hs : v.cells.size = size) (hle : off + size ≤ cs.size) :
    Instr.fill place cs ((i, v) :: rest) = Instr.fill place (cs.toList.take off ++ v.cells.toList ++ cs.toList.drop (off + v.cells.toList.length)).toArray rest := by
  rw [Instr.fill, hp]
  simp only
  rw [if_neg (by simp [hs]; omega)]
  congr 1
  have := foldl_set v.cells.toList 0 off cs (by simp [hs]; omega)
  apply Array.ext'
  rw [show (Array.foldl (fun cs x => cs.setIfInBounds (off + x.2) x.1) cs v.cells.zipIdx) = ((v.cells.toList.zipIdx 0).foldl (fun cs (p : Value × Nat) => cs.setIfInBounds (off + p.2) p.1) cs) by rw [← Array.foldl_toList]; simp]
  simpa using this
theorem vrs_lput {cs ys xs : List AV} {us vs : List Value} {o : Nat} (h : lput cs o xs = some ys) (hr : VRs φ H w cs us) (hx : VRs φ H w xs vs) : VRs φ H w ys (us.take o ++ vs ++ us.drop (o + vs.length)) ∧ o + vs.length ≤ us.length := by
  obtain ⟨rfl, hle⟩ := lput_some h
  have h1 := vrs_len hr
  have h2 := vrs_len hx
  rw [← h2]
  exact ⟨vrs_append (vrs_append (vrs_take hr o) hx) (vrs_drop hr _), by omega⟩
theorem aparts_ok (hT : TabOk P T) {fs : List Field} {places : List (Nat × Nat)} (hpl : fs.mapM (fun f => (P.info? f.type).map fun i => (f.offset, i.size)) = some places) {ρ : Operand → Value} :
    ∀ {ps : List (Nat × Operand)} {xs : List AV} {cells out : List AV} {us : List Value}, VRs φ H w xs ((snds ps).map ρ) → VRs φ H w cells us → (∀ c ∈ us, c.oneCell' = true) → (∀ v ∈ (snds ps).map ρ, ∀ c ∈ v.cells.toList, c.oneCell' = true) →
      aparts T fs cells (zipP ps xs) = some out → ∃ vs, Instr.fill (places.toArray[·]?) us.toArray (ps.map fun p => (p.1, ρ p.2)) = some vs.toArray ∧ VRs φ H w out vs ∧ ∀ c ∈ vs, c.oneCell' = true
  | [], xs, cells, out, us, hx, hr, h1, hv1, h => by
    have : xs = [] := by cases xs with | nil => rfl | cons a b => obtain ⟨_, _, e, _⟩ := hx; simp [snds] at e
    subst this
    simp [zipP, aparts] at h
    subst h
    exact ⟨us, by simp [Instr.fill], hr, h1⟩
  | (f, x) :: ps, [], cells, out, us, hx, hr, h1, hv1, h => by
    have : (snds ((f, x) :: ps)).map ρ = [] := hx
    simp [snds] at this
  | (f, x) :: ps, v :: xs, cells, out, us, hx, hr, h1, hv1, h => by
    obtain ⟨u, us', he, hvr, hrest⟩ := hx
    simp only [snds, List.map_cons, List.cons.injEq] at he
    obtain ⟨rfl, rfl⟩ := he
    rw [zipP, aparts] at h
    cases hf : lget fs f with
    | none => simp [hf] at h
    | some g =>
      simp only [hf] at h
      cases hg : tget T g.type with
      | none => simp [hg] at h
      | some i =>
        simp only [hg] at h
        cases hsz : eqb (llen (flat v)) i.size with
        | false => simp [hsz] at h
        | true =>
          rw [hsz, cond_true] at h
          have hsz := eqb_eq hsz
          rw [llen_eq] at hsz
          cases hl : lput cells g.offset (flat v) with
          | none => simp [hl] at h
          | some cs' =>
            simp only [hl] at h
            have hfl := vr_flat hvr
            have hlen := vrs_len hfl
            obtain ⟨hr2, hle⟩ := vrs_lput hl hr hfl
            have hone : ∀ c ∈ (ρ x).cells.toList, c.oneCell' = true := hv1 _ (by simp [snds])
            obtain ⟨vs, h3, h4, h5⟩ := aparts_ok hT hpl hrest hr2 (fun c hc => by
              rcases List.mem_append.1 hc with hc | hc
              · rcases List.mem_append.1 hc with hc | hc
                · exact h1 c (List.mem_of_mem_take hc)
                · exact hone c hc
              · exact h1 c (List.mem_of_mem_drop hc)) (fun v hv => hv1 v (by simp only [snds, List.map_cons, List.mem_cons]; exact .inr hv)) h
            refine ⟨vs, ?_, h4, h5⟩
            have hplace : places.toArray[f]? = some (g.offset, i.size) := by
              have hgf := lget_some hf
              obtain ⟨fi, hfi, hfs, _⟩ := hT.inf hg
              have := mapM_get hpl hgf
              simpa [hfi, hfs] using this
            rw [List.map_cons, fill_ok (place := fun i => places.toArray[i]?) hplace (by rw [← hsz, hlen]; simp) (by have := hle; simp at this ⊢; rw [← hsz, hlen]; simpa using this)]
            simpa using h3
where
  mapM_get {α β : Type} {g : α → Option β} : ∀ {l : List α} {r : List β} {n : Nat} {a : α}, l.mapM g = some r → l[n]? = some a → r[n]? = g a
    | [], _, _, _, _, h => by simp at h
    | x :: l, r, n, a, h, k => by
      simp only [List.mapM_cons, Option.bind_eq_bind, Option.pure_def] at h
      cases hx : g x with
      | none => simp [hx] at h
      | some y =>
        cases hr : l.mapM g with
        | none => simp [hx, hr] at h
        | some r' =>
          simp [hx, hr] at h
          subst h
          cases n with
          | zero => simp at k; subst k; simp [hx]
          | succ n => simpa using mapM_get hr (by simpa using k)
theorem allT_ok (hT : TabOk P T) : ∀ {fs : List Field}, allT T fs = true → ∃ places, fs.mapM (fun f => (P.info? f.type).map fun i => (f.offset, i.size)) = some places
  | [], _ => ⟨[], rfl⟩
  | f :: fs, h => by
    rw [allT] at h
    cases hi : tget T f.type with
    | none => simp [hi] at h
    | some i =>
      simp only [hi] at h
      obtain ⟨fi, hfi, _⟩ := hT.inf hi
      obtain ⟨p, hp⟩ := allT_ok hT h
      exact ⟨(f.offset, fi.size) :: p, by simp [List.mapM_cons, hfi, hp]⟩
theorem one_of_agg {us : List Value} (h : ∀ c ∈ us, c.oneCell' = true) : ∀ c ∈ (Value.agg us.toArray).cells.toList, c.oneCell' = true := by simpa [Value.cells] using h
theorem one_cells : ∀ {x : AV} {u : Value}, notTup x = true → VR φ H w x u → ∀ c ∈ u.cells.toList, c.oneCell' = true
  | .int _ k n, u, _, h => by
    have : u = .int k n := h
    subst this; simp [Value.cells, Value.oneCell']
  | .bool b, u, _, h => by
    have : u = .bool b := h
    subst this; simp [Value.cells, Value.oneCell']
  | .val v, u, hn, h => by
    have : u = v := h
    subst this
    cases u <;> first | (simp [notTup] at hn; done) | simp [Value.cells, Value.oneCell']
  | .agg cs, u, _, h => by
    obtain ⟨us, rfl, h1, _⟩ := h
    exact one_of_agg h1
  | .tup cs, u, hn, h => by simp [notTup] at hn
  | .ptr ix bs off, u, _, h => by obtain ⟨b, o, _, rfl⟩ := h; simp [Value.cells, Value.oneCell']
  | .rptr ix bs st i off, u, _, h => by obtain ⟨b, o, _, rfl⟩ := h; simp [Value.cells, Value.oneCell']
  | .own ix bs st i n, u, _, h => by
    rcases h with ⟨b, o, cap, N, M, hp, rfl, _⟩ | ⟨rfl, a, rfl, _⟩ <;> simp [Value.cells, Value.oneCell']
  | .list st gd full l, u, _, h => by obtain ⟨us, _, a, n, cap, rfl, _⟩ := h; simp [Value.cells, Value.oneCell']
  | .mlist st gd full α enc d l, u, _, h => by obtain ⟨us, _, _, a, n, cap, rfl, _⟩ := h; simp [Value.cells, Value.oneCell']
  | .hptr el st off, u, _, h => by obtain ⟨y, ad, _, rfl, _⟩ := h; simp [Value.cells, Value.oneCell']
  | .fn f cs, u, _, h => by obtain ⟨us, rfl, _⟩ := h; simp [Value.cells, Value.oneCell']
theorem allNT_ok : ∀ {xs : List AV} {us : List Value}, allNT xs = true → VRs φ H w xs us → ∀ u ∈ us, ∀ c ∈ u.cells.toList, c.oneCell' = true
  | [], us, _, h, u, hu => by
    have : us = [] := h
    subst this; cases hu
  | v :: xs, us, hn, h, u, hu => by
    obtain ⟨x, us', rfl, h1, h2⟩ := h
    rw [allNT] at hn
    cases hv : notTup v with
    | false => simp [hv] at hn
    | true =>
      rw [hv, cond_true] at hn
      rcases List.mem_cons.1 hu with rfl | hu
      · exact one_cells hv h1
      · exact allNT_ok hn h2 u hu
theorem snds_map (ps : List (Nat × Operand)) (ρ : Operand → Value) : (ps.map fun (p : Nat × Operand) => (p.1, ρ p.2)) = ps.map fun (i, x) => (i, ρ x) := rfl
theorem abuild_ok (hT : TabOk P T) {t : TypeId} {ps : Array (Nat × Operand)} {xs : List AV} {ρ : Operand → Value} (hx : VRs φ H w xs ((snds ps.toList).map ρ)) (hn : allNT xs = true) {cs : List Bool} {v : AV}
    (h : abuild T t (zipP ps.toList xs) = some (cs, v)) : ∃ z, (Instr.build t (ps.map fun (i, x) => (i, ρ x))).run P w = .ok z w ∧ VR φ H w v z := by
  unfold abuild at h
  split at h
  · rename_i fs s b z q hi
    cases ha : allT T fs.toList with
    | false => simp [ha] at h
    | true =>
      rw [ha, cond_true] at h
      cases hp : aparts T fs.toList (ofVals z.toList) (zipP ps.toList xs) with
      | none => simp [hp] at h
      | some out =>
        simp [hp] at h
        obtain ⟨rfl, rfl⟩ := h
        obtain ⟨places, hpl⟩ := allT_ok hT ha
        obtain ⟨_, f, hf, ⟨_, _, hz⟩, _⟩ := hT t _ hi
        have hund := hT.und hi
        have hone : ∀ c ∈ z.toList, c.oneCell' = true := by
          have := hT.zone hi
          simpa [Value.cells] using this
        obtain ⟨vs, h3, h4, h5⟩ := aparts_ok hT hpl hx (vrs_ofVals z.toList) hone (allNT_ok hn hx) hp
        refine ⟨.agg vs.toArray, run_build w t _ _ ?_, vs, rfl, h5, h4⟩
        unfold Program.built
        rw [hf, hund]
        simp only [hz, hpl, Value.cells]
        simpa using h3
  · simp at h
theorem arr_map (a : Array Operand) (ρ : Operand → Value) : a.map ρ = (a.toList.map ρ).toArray := by
  apply Array.ext'
  simp
theorem amm_ok {mx : Bool} {xs : List AV} {us : List Value} (hx : VRs φ H w xs us) {cs : List Bool} {v : AV} (h : amm real mx xs = some (cs, v)) (ats : Array TypeId) (ty : TypeId) :
    ∃ z, ((if mx then Builtin.max_ ats ty us.toArray else Builtin.min_ ats ty us.toArray) : Sem Value).run P w = .ok z w ∧ VR φ H w v z := by
  unfold amm at h
  split at h
  · rename_i l k a l' k' b
    obtain ⟨u, _, rfl, h1, v', _, rfl, h2, h3⟩ := hx
    have h1 : u = .int k a := h1
    have h2 : v' = .int k' b := h2
    have h3 : _ = [] := h3
    subst h1; subst h2; subst h3
    cases hk : sameK k k' with
    | false => simp [hk] at h
    | true =>
      obtain rfl := sameK_eq hk
      simp [hk] at h
      obtain ⟨rfl, rfl⟩ := h
      cases mx with
      | true => exact ⟨.int k (if b > a then b else a), by simp [Builtin.max_, Builtin.max2], by simp only [pk_real]; cases l <;> cases l' <;> simp [VR, real]⟩
      | false => exact ⟨.int k (if b < a then b else a), by simp [Builtin.min_, Builtin.min2], by simp only [pk_real]; cases l <;> cases l' <;> simp [VR, real]⟩
  · simp at h
/-- The law: what aq says is what the operation gives. -/
theorem aq_ok (hT : TabOk P T) (hR : Rel φ H F ob nx w) {ρ : Operand → Value} (o : Oper) {xs : List AV} (hx : VRs φ H w xs ((opds o.op).map ρ)) {cs : List Bool} {v : AV} (h : aq real T o.op xs ob = some (cs, v)) (hc : ∀ c ∈ cs, c = true) :
    ∃ u, (execOp ρ o).run P w = .ok (.value u) w ∧ VR φ H w v u := by
  obtain ⟨dst, op, ty, pos, aft, g⟩ := o
  have one : ∀ {a : AV} {x : Operand}, VRs φ H w [a] [ρ x] → VR φ H w a (ρ x) := fun ⟨u, us', e, h1, _⟩ => by
    simp at e; rw [e.1]; exact h1
  have two : ∀ {a b : AV} {x y : Operand}, VRs φ H w [a, b] [ρ x, ρ y] → VR φ H w a (ρ x) ∧ VR φ H w b (ρ y) := fun ⟨u, us', e, h1, v, vs', e2, h2, _⟩ => by
    subst e2; simp at e; rw [e.1, e.2.1]; exact ⟨h1, h2⟩
  have fin : ∀ {s : Sem Value} {z : Value}, s.run P w = .ok z w → VR φ H w v z → (execOp ρ ⟨dst, op, ty, pos, aft, g⟩) = (do pure (Next.value (← s))) → ∃ u, (execOp ρ ⟨dst, op, ty, pos, aft, g⟩).run P w = .ok (.value u) w ∧ VR φ H w v u := fun h1 h2 e => ⟨_, by rw [e]; exact run_value h1, h2⟩
  simp only at hx h
  unfold aq at h
  split at h
  · simp at h
    obtain ⟨rfl, rfl⟩ := h
    exact ⟨_, by simp [execOp], one hx⟩
  · simp at h
    obtain ⟨rfl, rfl⟩ := h
    exact ⟨_, by simp [execOp], one hx⟩
  · rename_i c x y b a b'
    simp at h
    obtain ⟨rfl, rfl⟩ := h
    obtain ⟨u1, _, e1, h1, u2, _, e2, h2, u3, _, e3, h3, e4⟩ := hx
    have e4 : _ = [] := e4
    subst e4; subst e3; subst e2
    simp [opds] at e1
    have h1 : u1 = .bool b := h1
    subst h1
    refine ⟨bif b then u2 else u3, ?_, by cases b <;> assumption⟩
    simp [execOp, e1.1, asBool, e1.2.1, e1.2.2]
  · rename_i t x p
    obtain ⟨z, hz, hr⟩ := aload_ok hT hR (one hx) h hc
    exact fin hz hr rfl
  · rename_i x p
    cases hp : isPtr p with
    | false => simp [hp] at h
    | true =>
      simp [hp] at h
      obtain ⟨rfl, rfl⟩ := h
      obtain ⟨ad, he⟩ := isPtr_of hp (one hx)
      exact ⟨ρ x, by simp [execOp, he], one hx⟩
  · rename_i bop t x y yt a b
    obtain ⟨h1, h2⟩ := two hx
    obtain ⟨z, hz, hr⟩ := abin_ok hT h1 h2 h hc x y
    exact fin hz hr rfl
  · rename_i uop xt x a
    obtain ⟨z, hz, hr⟩ := aun_ok (P := P) (one hx) h
    exact fin hz hr rfl
  · rename_i s d x a
    obtain ⟨z, hz, hr⟩ := aconv_ok hT (one hx) h
    exact fin hz hr rfl
  · rename_i t x f a
    obtain ⟨z, hz, hr⟩ := afield_ok hT (one hx) h
    exact fin hz hr rfl
  · rename_i t x f a
    obtain ⟨z, hz, hr⟩ := afieldAddr_ok hT (one hx) h
    exact fin hz hr rfl
  · rename_i t x i a b
    obtain ⟨h1, h2⟩ := two hx
    obtain ⟨z, hz, hr⟩ := aindexAddr_ok hT h1 h2 h hc
    exact fin hz hr rfl
  · rename_i t x i a b
    obtain ⟨h1, h2⟩ := two hx
    obtain ⟨z, hz, hr⟩ := aindex_ok hT h1 h2 h hc
    exact fin hz hr rfl
  · rename_i x i vs
    cases hg : lget vs i with
    | none => simp [hg] at h
    | some v' =>
      simp [hg] at h
      obtain ⟨rfl, rfl⟩ := h
      obtain ⟨us, he, hr⟩ := one hx
      have hg2 := lget_some hg
      have hlt := (List.getElem?_eq_some_iff.1 hg2).1
      obtain ⟨u, hu, hvr⟩ := (vrs_get hr).2 i hlt
      have e : vs[i] = v' := (List.getElem?_eq_some_iff.1 hg2).2
      rw [e] at hvr
      refine fin (s := Instr.extract (ρ x) i) (z := u) ?_ hvr rfl
      simp [he, Instr.extract, hu]
  · rename_i t x a
    obtain ⟨z, hz, hr⟩ := aslice_ok hT (one hx) h hc .i64 .i64 .i64
    exact fin hz hr rfl
  · rename_i t x l a lb k l'
    obtain ⟨h1, h2⟩ := two hx
    obtain ⟨z, hz, hr⟩ := aslice_ok hT h1 h hc k .i64 .i64
    exact fin hz hr (by simp only [execOp, Option.map]; rw [show ρ l = .int k l' from h2])
  · rename_i t x l a lb k l'
    obtain ⟨h1, h2⟩ := two hx
    obtain ⟨z, hz, hr⟩ := aslice_ok hT h1 h hc .i64 k .i64
    exact fin hz hr (by simp only [execOp, Option.map]; rw [show ρ l = .int k l' from h2])
  · rename_i t x l m a lb k l' lb2 k2 m'
    obtain ⟨u1, _, e1, h1, u2, _, e2, h2, u3, _, e3, h3, e4⟩ := hx
    have e4 : _ = [] := e4
    subst e4; subst e3; subst e2
    simp [opds, opts] at e1
    obtain ⟨z, hz, hr⟩ := aslice_ok hT h1 h hc k k2 .i64
    have h2 : u2 = .int k l' := h2
    have h3 : u3 = .int k2 m' := h3
    exact fin hz hr (by simp only [execOp, Option.map]; rw [e1.1, e1.2.1, e1.2.2, h2, h3])
  · rename_i t x l m a lb k l' lb2 k2 m'
    obtain ⟨u1, _, e1, h1, u2, _, e2, h2, u3, _, e3, h3, e4⟩ := hx
    have e4 : _ = [] := e4
    subst e4; subst e3; subst e2
    simp [opds, opts] at e1
    obtain ⟨z, hz, hr⟩ := aslice_ok hT h1 h hc .i64 k k2
    have h2 : u2 = .int k l' := h2
    have h3 : u3 = .int k2 m' := h3
    exact fin hz hr (by simp only [execOp, Option.map]; rw [e1.1, e1.2.1, e1.2.2, h2, h3])
  · rename_i t x l m n a lb k l' lb2 k2 m' lb3 k3 n'
    obtain ⟨u1, _, e1, h1, u2, _, e2, h2, u3, _, e3, h3, u4, _, e5, h4, e4⟩ := hx
    have e4 : _ = [] := e4
    subst e4; subst e5; subst e3; subst e2
    simp [opds, opts] at e1
    obtain ⟨z, hz, hr⟩ := aslice_ok hT h1 h hc k k2 k3
    have h2 : u2 = .int k l' := h2
    have h3 : u3 = .int k2 m' := h3
    have h4 : u4 = .int k3 n' := h4
    exact fin hz hr (by simp only [execOp, Option.map]; rw [e1.1, e1.2.1, e1.2.2.1, e1.2.2.2, h2, h3, h4])
  · rename_i t ps
    cases hn : allNT xs with
    | false => simp [hn] at h
    | true =>
      rw [hn, cond_true] at h
      obtain ⟨z, hz, hr⟩ := abuild_ok hT hx hn h
      exact fin hz hr rfl
  · rename_i fn first cap
    cases hz : eqb first.size 0 with
    | false => simp [hz] at h
    | true =>
      simp [hz] at h
      obtain ⟨rfl, rfl⟩ := h
      have hf : first = #[] := Array.eq_empty_of_size_eq_zero (eqb_eq hz)
      subst hf
      refine ⟨.func fn #[] (cap.map ρ), by simp [execOp, Instr.makeFunc], (cap.map ρ).toList, by rw [arr_map], ?_⟩
      simpa [opds] using hx
  · rename_i args ts x
    cases hts : ts.toList with
    | nil => simp [hts] at h
    | cons t r =>
      cases r with
      | cons => simp [hts] at h
      | nil =>
        simp only [hts] at h
        have hts' : ts = #[t] := by apply Array.ext'; simpa using hts
        subst hts'
        obtain ⟨u, us', e, h1, e2⟩ := hx
        have e2 : us' = [] := e2
        subst e2
        have e : args.toList.map ρ = [u] := e
        have e' : args.map ρ = #[u] := by apply Array.ext'; simpa using e
        obtain ⟨z, hz, hr⟩ := alen_ok (P := P) hT h1 h ty
        refine ⟨z, ?_, hr⟩
        simp only [execOp, resolve, invoke, builtin, Sem.run_bind, Sem.run_pure, Result.andThen_ok, e', hz]
  · rename_i args ts
    have e : args.toList.map ρ = (args.map ρ).toList := by simp
    obtain ⟨z, hz, hr⟩ := amm_ok (P := P) (us := (args.map ρ).toList) (by simpa [opds] using hx) h ts ty
    refine ⟨z, ?_, hr⟩
    simp only [if_true] at hz
    rw [Array.toArray_toList] at hz
    simp only [execOp, resolve, invoke, builtin, Sem.run_bind, Sem.run_pure, Result.andThen_ok, hz]
  · rename_i args ts
    obtain ⟨z, hz, hr⟩ := amm_ok (P := P) (us := (args.map ρ).toList) (by simpa [opds] using hx) h ts ty
    refine ⟨z, ?_, hr⟩
    simp only [Bool.false_eq_true, if_false] at hz
    rw [Array.toArray_toList] at hz
    simp only [execOp, resolve, invoke, builtin, Sem.run_bind, Sem.run_pure, Result.andThen_ok, hz]
  · simp at h
end
end Go.Proofs.Ytckkcgkgfkgfdaa.AM
