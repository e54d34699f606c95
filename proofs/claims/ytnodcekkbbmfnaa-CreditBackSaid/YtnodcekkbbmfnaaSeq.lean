/- A region that draws its order, walked once in one order of its operations. Plain laws over the model's own; no condition. -/
import Derived.Test.YtnodcekkbbmfnaaPar
namespace Go.Proofs.Ytnodcekkbbmfnaa.Seq
open Go.Proofs.Ytnodcekkbbmfnaa.Par (reach reach_listed reach_ready depB depB_of backB wpAny_inv upd set_upd getD_tf permB sl sl_t sl_f)
section
variable {P : Program} {ops : Array Oper} {md : Region.Mode} {Q : Exit → Act → World → Prop} {S : World → Prop} {ch : List Nat}
/-- The operations of a list, one behind the other; those of ch may turn the world. -/
def wpSeq (P : Program) (ops : Array Oper) (Q : Exit → Act → World → Prop) (S : World → Prop) (ch : List Nat) : List Nat → Act → World → Prop
  | [], a, w => Q .normal a w
  | i :: is, a, w => (∃ o v, ops[i]? = some o ∧ YieldsIf P ops S o v a ∧ wpSeq P ops Q S ch is (a.put o.dst v) w) ∨
    (ch.contains i = true ∧ wpOp P ops Q i (fun a' w' => S w' ∧ wpSeq P ops Q S ch is a' w') a w)
/-- j comes ahead of i: if j may turn the world, i waits for it; else i waits for it or has nothing to do with it. -/
def okP (md : Region.Mode) (ops : Array Oper) (ch : List Nat) (j i : Nat) : Bool :=
  if ch.contains j then reach md ops j 40 i else depB md ops i j || match ops[j]?, ops[i]? with
    | some oj, some oi => oj.apart ops oi
    | _, _ => false
def okB (md : Region.Mode) (ops : Array Oper) (ch : List Nat) : List Nat → Bool
  | [] => true
  | j :: is => is.all (fun i => okP md ops ch j i && !Nat.beq j i) && okB md ops ch is
theorem okB_pair : ∀ {is : List Nat}, okB md ops ch is = true → is.Pairwise (fun j i => okP md ops ch j i = true ∧ j ≠ i)
  | [], _ => List.Pairwise.nil
  | j :: is, h => by
    simp only [okB, Bool.and_eq_true] at h
    refine List.Pairwise.cons (fun i hi => ?_) (okB_pair h.2)
    have h1 := List.all_eq_true.1 h.1 i hi
    simp only [Bool.and_eq_true, Bool.not_eq_true'] at h1
    exact ⟨h1.1, fun e => by have h2 := h1.2; rw [e] at h2; simp at h2⟩
/-- One that may come up next, taken out of its place. -/
theorem pull (hs : Region.noSelect ops = true) (hQ : ∀ c (a : Act) (d : Option Tmp) (v : Value) (w : World), Q (.panic c) (a.put d v) w → Q (.panic c) a w)
    {c : Nat → Bool} (hcl : ∀ i j, depB md ops i j = true → c i = true → c j = true) {i : Nat} (hd : ∀ j, depB md ops i j = true → c j = true) :
    ∀ (is : List Nat) (a : Act) (w : World), i ∈ is → is.Pairwise (fun j i => okP md ops ch j i = true ∧ j ≠ i) → (∀ j ∈ is, c j = false) → S w → wpSeq P ops Q S ch is a w →
      wpOp P ops Q i (fun a' w' => S w' ∧ wpSeq P ops Q S ch (is.filter fun j => !Nat.beq j i) a' w') a w
  | [], _, _, hi, _, _, _, _ => by cases hi
  | j :: is, a, w, hi, hp, hc, hS, h => by
    have hp2 := List.pairwise_cons.1 hp
    by_cases e : j = i
    · subst e
      have hf : ((j :: is).filter fun k => !Nat.beq k j) = is := by
        rw [List.filter_cons_of_neg (by simp)]
        refine List.filter_eq_self.2 (fun k hk => ?_)
        have := (hp2.1 k hk).2
        simp only [Bool.not_eq_true']
        cases h2 : Nat.beq k j with
        | false => rfl
        | true => exact (this (Nat.eq_of_beq_eq_true h2).symm).elim
      rw [hf]
      rcases h with ⟨o, v, ho, hy, hr⟩ | ⟨_, hr⟩
      · exact hy.wpOp ho hS ⟨hS, hr⟩
      · exact hr
    · have hi' : i ∈ is := by
        rcases List.mem_cons.1 hi with h' | h'
        · exact (e h'.symm).elim
        · exact h'
      have hok := (hp2.1 i hi').1
      have hcj := hc j (by simp)
      have hnb : Nat.beq j i = false := by
        cases h2 : Nat.beq j i with
        | false => rfl
        | true => exact (e (Nat.eq_of_beq_eq_true h2)).elim
      have hf : ((j :: is).filter fun k => !Nat.beq k i) = j :: (is.filter fun k => !Nat.beq k i) := List.filter_cons_of_pos (by rw [hnb]; rfl)
      rw [hf]
      unfold okP at hok
      by_cases hch : ch.contains j = true
      · rw [if_pos hch] at hok
        rw [reach_ready hcl hd (fun e' => e e'.symm) 40 hok] at hcj
        cases hcj
      · rw [if_neg hch] at hok
        rcases h with ⟨o, v, ho, hy, hr⟩ | ⟨hj, _⟩
        · have hnd : depB md ops i j = false := by
            cases h2 : depB md ops i j with
            | false => rfl
            | true => rw [hd j h2] at hcj; cases hcj
          rw [hnd, Bool.false_or, ho] at hok
          cases hoi : ops[i]? with
          | none => rw [hoi] at hok; cases hok
          | some oi =>
            rw [hoi] at hok
            have ih := pull hs hQ hcl hd is (a.put o.dst v) w hi' hp2.2 (fun k hk => hc k (by simp [hk])) hS hr
            refine wpOp_mono (fun a' w' h3 => ⟨h3.2.1, Or.inl ⟨o, v, ho, h3.1, h3.2.2⟩⟩)
              (wpOp_putIf hoi hok (fun cs b => Region.noSelect_spec hs j o cs b ho) (fun cs b => Region.noSelect_spec hs i oi cs b hoi) (fun c a w h => hQ c a _ _ w h) hy ih)
        · exact (hch hj).elim
/-- The law. -/
theorem wp_region_seq {id : Nat} {a0 : Act} {w0 : World} (S : World → Prop) (ch is : List Nat) (hm : P.follows .mixedOrders = true) (hs : Region.noSelect ops = true) (hb : backB .any ops = true)
    (hp : permB ops.size is = true) (hok : okB .any ops ch is = true) (hQ : ∀ c (a : Act) (d : Option Tmp) (v : Value) (w : World), Q (.panic c) (a.put d v) w → Q (.panic c) a w)
    (h0 : S w0.drew) (h : wpSeq P ops Q S ch is a0 w0.drew) : (Code.region id ops true).wp P Q a0 w0 := by
  refine wp_region_any hm ?_
  simp only [permB, Bool.and_eq_true] at hp
  have hin : ∀ i, i < ops.size → i ∈ is := fun i hi => by
    have := List.all_eq_true.1 hp.1.2 i (List.mem_range.2 hi)
    simpa using this
  have hlt : ∀ i ∈ is, i < ops.size := fun i hi => of_decide_eq_true (List.all_eq_true.1 hp.2 i hi)
  have hpair := okB_pair hok
  have hz : ∀ i, (Array.replicate ops.size false).getD i false = false := fun i => by
    rcases Nat.lt_or_ge i ops.size with h | h
    · simp [h]
    · simp [h]
  refine wpAny_inv (fun listed a w => listed.size = ops.size ∧ (∀ i j, depB .any ops i j = true → listed.getD i false = true → listed.getD j false = true) ∧ S w ∧
    wpSeq P ops Q S ch (is.filter fun j => !listed.getD j false) a w) hb (fun _ _ _ h => h.1) ?_ ?_ _ _ _ _ (by rw [Array.toList_replicate]; exact Nat.le_trans List.countP_le_length (by rw [List.length_replicate]; exact Nat.le_refl _)) ?_
  · rintro listed a w ⟨hsz, hcl, hS, hseq⟩ i hi hun hall
    have his : i < listed.size := by rw [hsz]; exact hi
    have hunf : listed.getD i false = false := by rw [getD_tf his false true]; exact hun
    have hd : ∀ j, depB .any ops i j = true → listed.getD j false = true := fun j hj => by
      unfold depB at hj
      cases ho : ops[i]? with
      | none => rw [ho] at hj; cases hj
      | some o =>
        rw [ho] at hj
        obtain ⟨e, he, h3⟩ := Array.any_eq_true'.1 hj
        simp only [Bool.and_eq_true, beq_iff_eq] at h3
        rw [← h3.2]
        exact hall o ho e he h3.1
    have hmem : i ∈ is.filter fun j => !listed.getD j false := List.mem_filter.2 ⟨hin i hi, by rw [hunf]; rfl⟩
    refine wpOp_mono (fun a' w' h3 => ⟨by rw [Array.size_setIfInBounds]; exact hsz, fun k j hkj hkl => ?_, h3.1, ?_⟩)
      (pull (c := fun j => listed.getD j false) hs hQ hcl hd _ a w hmem (hpair.sublist List.filter_sublist) (fun j hj => by have := (List.mem_filter.1 hj).2; simpa using this) hS hseq)
    · by_cases e : i = k
      · subst e
        exact getD_set_true (hd j hkj)
      · rw [getD_set_ne false e] at hkl
        exact getD_set_true (hcl k j hkj hkl)
    · have h4 := h3.2
      rw [List.filter_filter] at h4
      have he : (fun j => !Nat.beq j i && !listed.getD j false) = fun j => !(listed.setIfInBounds i true).getD j false := by
        have h5 := set_upd (listed := listed) his
        funext j
        have h6 : (listed.setIfInBounds i true).getD j false = upd (fun j => listed.getD j false) i j := congrFun h5 j
        rw [h6]
        unfold upd
        rw [Bool.not_or]
      rw [he] at h4
      exact h4
  · rintro listed a w ⟨hsz, _, _, hseq⟩ hall
    have hn : (is.filter fun j => !listed.getD j false) = [] := by
      refine List.filter_eq_nil_iff.2 (fun j hj => ?_)
      have := hall j (hlt j hj)
      rw [getD_tf (by rw [hsz]; exact hlt j hj) true false] at this
      simp [this]
    rw [hn] at hseq
    exact hseq
  · refine ⟨by simp, (fun i j _ h => by rw [hz] at h; cases h), h0, ?_⟩
    have hn : (is.filter fun j => !(Array.replicate ops.size false).getD j false) = is := List.filter_eq_self.2 (fun j _ => by rw [hz]; rfl)
    rw [hn]
    exact h
/-! The steps of a walk. -/
section
variable {i : Nat} {is : List Nat} {a a' : Act} {w : World} {v : Value} {d : Option Tmp} {op : Op} {t : TypeId} {pos : String} {aft : Array Edge} {g : Option (Nat × Bool)}
/-- It only reads, and is wanted. -/
theorem seq_val (ho : ops[i]? = some ⟨d, op, t, pos, aft, g⟩) (hw : Region.wanted ⟨d, op, t, pos, aft, g⟩ (yielded ops a.tmps) = true)
    (hy : ∀ w, S w → (execOp a.eval ⟨d, op, t, pos, aft, g⟩).run P w = .ok (.value v) w) (ha : a.put d v = a') (hr : wpSeq P ops Q S ch is a' w) : wpSeq P ops Q S ch (i :: is) a w :=
  Or.inl ⟨_, v, ho, Or.inl ⟨hw, hy⟩, by rw [ha]; exact hr⟩
/-- It isn't wanted. -/
theorem seq_off (ho : ops[i]? = some ⟨d, op, t, pos, aft, g⟩) (hw : Region.wanted ⟨d, op, t, pos, aft, g⟩ (yielded ops a.tmps) = false)
    (ha : a.put d undef = a') (hr : wpSeq P ops Q S ch is a' w) : wpSeq P ops Q S ch (i :: is) a w :=
  Or.inl ⟨_, undef, ho, Or.inr ⟨hw, rfl⟩, by rw [ha]; exact hr⟩
/-- It may turn the world. -/
theorem seq_op (ho : ops[i]? = some ⟨d, op, t, pos, aft, g⟩) (hc : ch.contains i = true) (hw : Region.wanted ⟨d, op, t, pos, aft, g⟩ (yielded ops a.tmps) = true)
    (h : ∀ K : Act → World → Prop, (∀ a' w', S w' → wpSeq P ops Q S ch is a' w' → K a' w') → Oper.wp P ⟨d, op, t, pos, aft, g⟩ a w K Q) : wpSeq P ops Q S ch (i :: is) a w := by
  refine Or.inr ⟨hc, ?_⟩
  refine wpOp_step ho (fun K' hK => ?_)
  rw [if_pos hw]
  exact h K' (fun a' w' hS hr => hK a' w' ⟨hS, hr⟩)
theorem seq_nil (h : Q .normal a w) : wpSeq P ops Q S ch [] a w := h
/-- It only reads, and is wanted if p. -/
theorem seq_if {p : Bool} (ho : ops[i]? = some ⟨d, op, t, pos, aft, g⟩) (hw : Region.wanted ⟨d, op, t, pos, aft, g⟩ (yielded ops a.tmps) = p)
    (hy : p = true → ∀ w, S w → (execOp a.eval ⟨d, op, t, pos, aft, g⟩).run P w = .ok (.value v) w) (ha : a.put d (sl p v undef) = a') (hr : wpSeq P ops Q S ch is a' w) : wpSeq P ops Q S ch (i :: is) a w := by
  cases p with
  | true => exact seq_val ho hw (hy rfl) ha hr
  | false => exact seq_off ho hw ha hr
/-- A call that may turn the world, and is wanted if p. -/
theorem seq_if_op {p : Bool} (ho : ops[i]? = some ⟨d, op, t, pos, aft, g⟩) (hc : ch.contains i = true) (hw : Region.wanted ⟨d, op, t, pos, aft, g⟩ (yielded ops a.tmps) = p) (hS : S w)
    (h : p = true → ∀ K : Act → World → Prop, (∀ w', S w' → K (a.put d v) w') → Oper.wp P ⟨d, op, t, pos, aft, g⟩ a w K Q) (ha : a.put d (sl p v undef) = a')
    (hr : ∀ w', S w' → wpSeq P ops Q S ch is a' w') : wpSeq P ops Q S ch (i :: is) a w := by
  cases p with
  | true => exact seq_op ho hc hw (fun K hK => h rfl K (fun w' hS' => hK _ _ hS' (by rw [show a.put d v = a' from ha]; exact hr w' hS')))
  | false => exact seq_off ho hw ha (hr w hS)
end
section
variable {i : Nat} {is : List Nat} {a a' : Act} {w : World} {o : Oper}
/-- It may turn the world: by a law over a step. -/
theorem seq_stp (ho : ops[i]? = some o) (hc : ch.contains i = true)
    (h : ∀ K : Act → World → Prop, (∀ a' w', S w' → wpSeq P ops Q S ch is a' w' → K a' w') → if Region.wanted o (yielded ops a.tmps) = true then Oper.wp P o a w K Q else K (a.put o.dst undef) w) : wpSeq P ops Q S ch (i :: is) a w :=
  Or.inr ⟨hc, wpOp_step ho (fun K' hK => h K' (fun a' w' hS hr => hK a' w' ⟨hS, hr⟩))⟩
theorem seq_fr (ha : a = a') (hr : wpSeq P ops Q S ch is a' w) : wpSeq P ops Q S ch is a w := by rw [ha]; exact hr
end
end
end Go.Proofs.Ytnodcekkbbmfnaa.Seq
