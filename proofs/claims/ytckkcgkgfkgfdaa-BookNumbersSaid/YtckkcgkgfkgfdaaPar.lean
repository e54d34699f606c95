/- A region that draws its order: what only reads comes as early as it may; of what writes or calls each that may come next is walked. Plain laws over the model's own; no condition. -/
import Derived.RegionTactic
import Derived.OrdersHeld
namespace Go.Proofs.Ytckkcgkgfkgfdaa.Par
section
variable {P : Program} {ops : Array Oper} {md : Region.Mode} {Q : Exit → Act → World → Prop} {S : World → Prop} {ch : List Nat}
theorem cnt_set : ∀ (l : List Bool) (i : Nat), (l[i]?).getD true = false → (l.set i true).countP (!·) + 1 = l.countP (!·)
  | [], i, h => by simp at h
  | b :: l, 0, h => by
    have hb : b = false := by simpa using h
    subst hb
    simp
  | b :: l, i + 1, h => by
    have := cnt_set l i (by simpa using h)
    simp only [List.set_cons_succ, List.countP_cons]
    omega
theorem cnt_zero : ∀ (l : List Bool) (i : Nat), l.countP (!·) = 0 → (l[i]?).getD true = true
  | [], i, h => by simp
  | b :: l, 0, h => by
    cases b
    · simp at h
    · simp
  | b :: l, i + 1, h => by
    have := cnt_zero l i (by simp only [List.countP_cons] at h; omega)
    simpa using this
theorem getD_list (l : Array Bool) (i : Nat) (d : Bool) : l.getD i d = (l.toList[i]?).getD d := by
  rw [Array.getD_eq_getD_getElem?, Array.getElem?_toList]
/-- Each edge that binds leads back. -/
def backB (md : Region.Mode) (ops : Array Oper) : Bool := (List.range ops.size).all fun i => match ops[i]? with | some o => o.after.all fun e => !Region.binds md e || decide (e.on < i) | none => true
theorem backB_at (h : backB md ops = true) {i : Nat} {o : Oper} (ho : ops[i]? = some o) : ∀ e ∈ o.after, Region.binds md e = true → e.on < i := by
  intro e he hbi
  have hi : i < ops.size := (Array.getElem?_eq_some_iff.1 ho).1
  have h1 := List.all_eq_true.1 h i (List.mem_range.2 hi)
  rw [ho] at h1
  have h2 := Array.all_eq_true'.1 h1 e he
  simp only [hbi, Bool.not_true, Bool.false_or] at h2
  exact of_decide_eq_true h2
/-- Nothing may come up: all has come up. -/
theorem done_all (h : backB md ops = true) {listed : Array Bool} (hsz : listed.size = ops.size) (hr : Region.ready md ops listed = []) : ∀ i, i < ops.size → listed.getD i true = true := by
  intro i
  induction i using Nat.strongRecOn with
  | _ i ih =>
    intro hi
    cases hl : listed.getD i true with
    | true => rfl
    | false =>
      have hm : i ∈ Region.ready md ops listed := by
        refine mem_ready.2 ⟨hl, ops[i], Array.getElem?_eq_getElem hi, fun e he hbi => ?_⟩
        have hb := backB_at h (Array.getElem?_eq_getElem hi) e he hbi
        have h1 := ih e.on hb (by omega)
        have h2 : e.on < listed.size := by omega
        simp [h2] at h1 ⊢
        exact h1
      rw [hr] at hm
      cases hm
/-- The law: what holds ahead, what each operation that may come next keeps, and what the end wants of it. -/
theorem wpAny_inv (I : Array Bool → Act → World → Prop) (hb : backB md ops = true) (hsz : ∀ listed a w, I listed a w → listed.size = ops.size)
    (hs : ∀ listed a w, I listed a w → ∀ i, i < ops.size → listed.getD i true = false → (∀ o, ops[i]? = some o → ∀ e ∈ o.after, Region.binds md e = true → listed.getD e.on false = true) →
      wpOp P ops Q i (fun a' w' => I (listed.setIfInBounds i true) a' w') a w)
    (he : ∀ listed a w, I listed a w → (∀ i, i < ops.size → listed.getD i true = true) → Q .normal a w) :
    ∀ (fuel : Nat) (listed : Array Bool) (a : Act) (w : World), listed.toList.countP (!·) ≤ fuel → I listed a w → wpAny P md ops Q fuel listed a w := by
  intro fuel
  induction fuel with
  | zero =>
    intro listed a w hf hI
    have hr : Region.ready md ops listed = [] := by
      cases hr : Region.ready md ops listed with
      | nil => rfl
      | cons i rs =>
        have hi : i ∈ Region.ready md ops listed := by rw [hr]; exact List.mem_cons_self
        have h1 := (mem_ready.1 hi).1
        rw [getD_list, cnt_zero _ _ (Nat.le_zero.1 hf)] at h1
        cases h1
    exact ⟨hr, he _ _ _ hI (done_all hb (hsz _ _ _ hI) hr)⟩
  | succ f ih =>
    intro listed a w hf hI
    refine ⟨fun hr => he _ _ _ hI (done_all hb (hsz _ _ _ hI) hr), fun i hi => ?_⟩
    obtain ⟨hun, o, ho, hall⟩ := mem_ready.1 hi
    refine wpOp_mono (fun a' w' hI' => ih _ _ _ ?_ hI') (hs _ _ _ hI i (Array.getElem?_eq_some_iff.1 ho).1 hun (fun o' ho' => by rw [ho] at ho'; cases ho'; exact hall))
    rw [Array.toList_setIfInBounds]
    have := cnt_set listed.toList i (by rw [← getD_list]; exact hun)
    omega
/-- What has come up, and one more. -/
def upd (b : Nat → Bool) (i : Nat) : Nat → Bool := fun j => Nat.beq j i || b j
/-- Does operation i wait for j? -/
def depB (md : Region.Mode) (ops : Array Oper) (i j : Nat) : Bool := match ops[i]? with | some o => o.after.any fun e => Region.binds md e && e.on == j | none => false
theorem getD_tf {listed : Array Bool} {i : Nat} (h : i < listed.size) (d e : Bool) : listed.getD i d = listed.getD i e := by simp [h]
theorem set_upd {listed : Array Bool} {i : Nat} (h : i < listed.size) : (fun j => (listed.setIfInBounds i true).getD j false) = upd (fun j => listed.getD j false) i := by
  funext j
  unfold upd
  by_cases e : i = j
  · subst e
    simp [h]
  · rw [getD_set_ne false e]
    have h1 : Nat.beq j i = false := by
      cases h2 : Nat.beq j i with
      | false => rfl
      | true => exact (e (Nat.eq_of_beq_eq_true h2).symm).elim
    rw [h1]
    rfl
/-- What stands where one of the region's stores puts what it holds: its value once it has come up, what stood there ahead of it. -/
def sl {α : Type} (b : Bool) (v u : α) : α := match b with | true => v | false => u
theorem sl_t {α : Type} (v u : α) : sl true v u = v := rfl
theorem sl_f {α : Type} (v u : α) : sl false v u = u := rfl
/-- Does operation i wait for j, by others? -/
def reach (md : Region.Mode) (ops : Array Oper) (j : Nat) : Nat → Nat → Bool
  | 0, _ => false
  | f + 1, i => Nat.beq i j || match ops[i]? with
    | some o => o.after.any fun e => Region.binds md e && Nat.ble j e.on && reach md ops j f e.on
    | none => false
theorem depB_of {i : Nat} {o : Oper} {e : Edge} (ho : ops[i]? = some o) (he : e ∈ o.after) (hb : Region.binds md e = true) : depB md ops i e.on = true := by
  unfold depB
  rw [ho]
  exact Array.any_eq_true'.2 ⟨e, he, by simp [hb]⟩
theorem reach_listed {c : Nat → Bool} (hcl : ∀ i j, depB md ops i j = true → c i = true → c j = true) {j : Nat} : ∀ f i, reach md ops j f i = true → c i = true → c j = true
  | 0, i, h, _ => by simp [reach] at h
  | f + 1, i, h, hc => by
    simp only [reach, Bool.or_eq_true] at h
    rcases h with h | h
    · rw [← Nat.eq_of_beq_eq_true h]; exact hc
    · cases ho : ops[i]? with
      | none => rw [ho] at h; cases h
      | some o =>
        rw [ho] at h
        obtain ⟨e, he, h2⟩ := Array.any_eq_true'.1 h
        simp only [Bool.and_eq_true] at h2
        exact reach_listed hcl f e.on h2.2 (hcl i e.on (depB_of ho he h2.1.1) hc)
theorem reach_ready {c : Nat → Bool} (hcl : ∀ i j, depB md ops i j = true → c i = true → c j = true) {i j : Nat} (hd : ∀ j, depB md ops i j = true → c j = true) (hij : i ≠ j) : ∀ f, reach md ops j f i = true → c j = true
  | 0, h => by simp [reach] at h
  | f + 1, h => by
    simp only [reach, Bool.or_eq_true] at h
    rcases h with h | h
    · exact (hij (Nat.eq_of_beq_eq_true h)).elim
    · cases ho : ops[i]? with
      | none => rw [ho] at h; cases h
      | some o =>
        rw [ho] at h
        obtain ⟨e, he, h2⟩ := Array.any_eq_true'.1 h
        simp only [Bool.and_eq_true] at h2
        exact reach_listed hcl f e.on h2.2 (hd e.on (depB_of ho he h2.1.1))
/-- Those of a list that may turn the world, and wait for none such of the list. -/
def alts (md : Region.Mode) (ops : Array Oper) (ch : List Nat) (l : List Nat) : List Nat :=
  l.filter fun j => ch.contains j && l.all fun k => !ch.contains k || Nat.beq k j || !reach md ops k 40 j
/-- The operations of a list, one behind the other; of those of ch, that may turn the world, each that may come next. -/
def wpPar (P : Program) (md : Region.Mode) (ops : Array Oper) (Q : Exit → Act → World → Prop) (S : World → Prop) (ch : List Nat) : Nat → List Nat → Act → World → Prop
  | _, [], a, w => Q .normal a w
  | 0, _ :: _, _, _ => False
  | n + 1, i :: is, a, w => (∃ o v, ops[i]? = some o ∧ YieldsIf P ops S o v a ∧ wpPar P md ops Q S ch n is (a.put o.dst v) w) ∨
    (ch.contains i = true ∧ ∀ j ∈ alts md ops ch (i :: is), wpOp P ops Q j (fun a' w' => S w' ∧ wpPar P md ops Q S ch n ((i :: is).filter fun k => !Nat.beq k j) a' w') a w)
def apartB (ops : Array Oper) (j i : Nat) : Bool := match ops[j]?, ops[i]? with
  | some oj, some oi => oj.apart ops oi
  | _, _ => false
/-- j comes ahead of i: i waits for it or has nothing to do with it; if j may turn the world and i only reads, i waits for it. -/
def okP (md : Region.Mode) (ops : Array Oper) (ch : List Nat) (j i : Nat) : Bool :=
  (depB md ops i j || apartB ops j i || reach md ops j 40 i) && (!ch.contains j || ch.contains i || reach md ops j 40 i)
def okB (md : Region.Mode) (ops : Array Oper) (ch : List Nat) : List Nat → Bool
  | [] => true
  | j :: is => is.all (fun i => okP md ops ch j i && !Nat.beq j i) && okB md ops ch is
theorem okB_pair : ∀ {is : List Nat}, okB md ops ch is = true → is.Pairwise (fun j i => okP md ops ch j i = true ∧ j ≠ i)
  | [], _ => List.Pairwise.nil
  | j :: is, h => by
    simp only [okB, Bool.and_eq_true] at h
    refine List.Pairwise.cons (fun i hi => ?_) (okB_pair h.2)
    have h1 := List.all_eq_true.1 h.1 i hi
    simp only [Bool.and_eq_true, Bool.not_eq_true'] at h1
    exact ⟨h1.1, fun e => by have h2 := h1.2; rw [e] at h2; simp at h2⟩
theorem beq_no {j i : Nat} (e : ¬ j = i) : Nat.beq j i = false := by
  cases h2 : Nat.beq j i with
  | false => rfl
  | true => exact (e (Nat.eq_of_beq_eq_true h2)).elim
/-- One that may come up next, taken out of its place. -/
theorem pull (hs : Region.noSelect ops = true) (hQ : ∀ c (a : Act) (d : Option Tmp) (v : Value) (w : World), Q (.panic c) (a.put d v) w → Q (.panic c) a w)
    {c : Nat → Bool} (hcl : ∀ i j, depB md ops i j = true → c i = true → c j = true) {i : Nat} (hd : ∀ j, depB md ops i j = true → c j = true) :
    ∀ (n : Nat) (is : List Nat) (a : Act) (w : World), is.length ≤ n + 1 → i ∈ is → is.Pairwise (fun j i => okP md ops ch j i = true ∧ j ≠ i) → (∀ j ∈ is, c j = false) → S w → wpPar P md ops Q S ch (n + 1) is a w →
      wpOp P ops Q i (fun a' w' => S w' ∧ wpPar P md ops Q S ch n (is.filter fun j => !Nat.beq j i) a' w') a w
  | _, [], _, _, _, hi, _, _, _, _ => by cases hi
  | n, j :: is, a, w, hlen, hi, hp, hc, hS, h => by
    have hp2 := List.pairwise_cons.1 hp
    have hno : ∀ k ∈ j :: is, k ≠ i → reach md ops k 40 i = false := fun k hk hki => by
      cases hr : reach md ops k 40 i with
      | false => rfl
      | true =>
        have h1 := reach_ready hcl hd (fun e => hki e.symm) 40 hr
        rw [hc k hk] at h1
        cases h1
    rcases h with ⟨o, v, ho, hy, hr⟩ | ⟨hj, hall⟩
    · by_cases e : j = i
      · subst e
        have hf : ((j :: is).filter fun k => !Nat.beq k j) = is := by
          rw [List.filter_cons_of_neg (by simp)]
          refine List.filter_eq_self.2 (fun k hk => ?_)
          rw [beq_no (fun e => (hp2.1 k hk).2 e.symm)]
          rfl
        rw [hf]
        exact hy.wpOp ho hS ⟨hS, hr⟩
      · have hi' : i ∈ is := by
          rcases List.mem_cons.1 hi with h' | h'
          · exact (e h'.symm).elim
          · exact h'
        have hok := (hp2.1 i hi').1
        have hcj := hc j (by simp)
        have hf : ((j :: is).filter fun k => !Nat.beq k i) = j :: (is.filter fun k => !Nat.beq k i) := List.filter_cons_of_pos (by rw [beq_no e]; rfl)
        rw [hf]
        obtain ⟨n, rfl⟩ : ∃ q, n = q + 1 := by
          cases is with
          | nil => cases hi'
          | cons x xs => exact ⟨n - 1, by simp only [List.length_cons] at hlen; omega⟩
        have hnd : depB md ops i j = false := by
          cases h2 : depB md ops i j with
          | false => rfl
          | true => rw [hd j h2] at hcj; cases hcj
        have hap : ∃ oi, ops[i]? = some oi ∧ o.apart ops oi = true := by
          unfold okP at hok
          rw [hnd, hno j (by simp) e, Bool.false_or, Bool.or_false, Bool.and_eq_true] at hok
          have h1 := hok.1
          unfold apartB at h1
          rw [ho] at h1
          cases hoi : ops[i]? with
          | none => rw [hoi] at h1; cases h1
          | some oi => rw [hoi] at h1; exact ⟨oi, rfl, h1⟩
        obtain ⟨oi, hoi, hap⟩ := hap
        have ih := pull hs hQ hcl hd n is (a.put o.dst v) w (by simp only [List.length_cons] at hlen; omega) hi' hp2.2 (fun k hk => hc k (by simp [hk])) hS hr
        refine wpOp_mono (fun a' w' h3 => ⟨h3.2.1, Or.inl ⟨o, v, ho, h3.1, h3.2.2⟩⟩)
          (wpOp_putIf hoi hap (fun cs b => Region.noSelect_spec hs j o cs b ho) (fun cs b => Region.noSelect_spec hs i oi cs b hoi) (fun c a w h => hQ c a _ _ w h) hy ih)
    · have hci : ch.contains i = true := by
        by_cases e : j = i
        · rw [← e]; exact hj
        · have hi' : i ∈ is := by
            rcases List.mem_cons.1 hi with h' | h'
            · exact (e h'.symm).elim
            · exact h'
          have hok := (hp2.1 i hi').1
          unfold okP at hok
          rw [hno j (by simp) e, hj, Bool.or_false, Bool.or_false, Bool.and_eq_true] at hok
          simpa using hok.2
      refine hall i (List.mem_filter.2 ⟨hi, ?_⟩)
      rw [hci, Bool.true_and, List.all_eq_true]
      intro k hk
      by_cases e : k = i
      · subst e; simp
      · rw [hno k hk e]; simp
/-- All of them, each once. -/
def permB (n : Nat) (is : List Nat) : Bool := Nat.beq is.length n && (List.range n).all (fun i => is.contains i) && is.all (fun i => decide (i < n))
/-- The law. -/
theorem wp_region_par {id : Nat} {a0 : Act} {w0 : World} (S : World → Prop) (ch is : List Nat) (hm : P.follows .mixedOrders = true) (hs : Region.noSelect ops = true) (hb : backB .any ops = true)
    (hp : permB ops.size is = true) (hok : okB .any ops ch is = true) (hQ : ∀ c (a : Act) (d : Option Tmp) (v : Value) (w : World), Q (.panic c) (a.put d v) w → Q (.panic c) a w)
    (h0 : S w0.drew) (h : wpPar P .any ops Q S ch is.length is a0 w0.drew) : (Code.region id ops true).wp P Q a0 w0 := by
  refine wp_region_any hm ?_
  simp only [permB, Bool.and_eq_true] at hp
  have hin : ∀ i, i < ops.size → i ∈ is := fun i hi => by
    have := List.all_eq_true.1 hp.1.2 i (List.mem_range.2 hi)
    simpa using this
  have hlt : ∀ i ∈ is, i < ops.size := fun i hi => of_decide_eq_true (List.all_eq_true.1 hp.2 i hi)
  have hpair := okB_pair hok
  have hz : ∀ i, (Array.replicate ops.size false).getD i false = false := fun i => by
    rcases Nat.lt_or_ge i ops.size with h | h
    · simp [h]
    · simp [h]
  refine wpAny_inv (fun listed a w => listed.size = ops.size ∧ (∀ i j, depB .any ops i j = true → listed.getD i false = true → listed.getD j false = true) ∧ S w ∧
    ∃ n, (is.filter fun j => !listed.getD j false).length ≤ n ∧ wpPar P .any ops Q S ch n (is.filter fun j => !listed.getD j false) a w) hb (fun _ _ _ h => h.1) ?_ ?_ _ _ _ _ (by rw [Array.toList_replicate]; exact Nat.le_trans List.countP_le_length (by rw [List.length_replicate]; exact Nat.le_refl _)) ?_
  · rintro listed a w ⟨hsz, hcl, hS, n, hn, hseq⟩ i hi hun hall
    have his : i < listed.size := by rw [hsz]; exact hi
    have hunf : listed.getD i false = false := by rw [getD_tf his false true]; exact hun
    have hd : ∀ j, depB .any ops i j = true → listed.getD j false = true := fun j hj => by
      unfold depB at hj
      cases ho : ops[i]? with
      | none => rw [ho] at hj; cases hj
      | some o =>
        rw [ho] at hj
        obtain ⟨e, he, h3⟩ := Array.any_eq_true'.1 hj
        simp only [Bool.and_eq_true, beq_iff_eq] at h3
        rw [← h3.2]
        exact hall o ho e he h3.1
    have hmem : i ∈ is.filter fun j => !listed.getD j false := List.mem_filter.2 ⟨hin i hi, by rw [hunf]; rfl⟩
    obtain ⟨n, rfl⟩ : ∃ q, n = q + 1 := ⟨n - 1, by have := List.length_pos_of_mem hmem; omega⟩
    have he : ((is.filter fun j => !listed.getD j false).filter fun j => !Nat.beq j i) = is.filter fun j => !(listed.setIfInBounds i true).getD j false := by
      rw [List.filter_filter]
      congr 1
      have h5 := set_upd (listed := listed) his
      funext j
      have h6 : (listed.setIfInBounds i true).getD j false = upd (fun j => listed.getD j false) i j := congrFun h5 j
      rw [h6]
      unfold upd
      rw [Bool.not_or]
    have hlen2 : (is.filter fun j => !(listed.setIfInBounds i true).getD j false).length ≤ n := by
      rw [← he]
      have h7 := (List.length_filter_lt_length_iff_exists (p := fun j => !Nat.beq j i)).2 ⟨i, hmem, by simp⟩
      omega
    refine wpOp_mono (fun a' w' h3 => ⟨by rw [Array.size_setIfInBounds]; exact hsz, fun k j hkj hkl => ?_, h3.1, n, hlen2, ?_⟩)
      (pull (c := fun j => listed.getD j false) hs hQ hcl hd n _ a w hn hmem (hpair.sublist List.filter_sublist) (fun j hj => by have := (List.mem_filter.1 hj).2; simpa using this) hS hseq)
    · by_cases e : i = k
      · subst e
        exact getD_set_true (hd j hkj)
      · rw [getD_set_ne false e] at hkl
        exact getD_set_true (hcl k j hkj hkl)
    · rw [← he]
      exact h3.2
  · rintro listed a w ⟨hsz, _, _, n, _, hseq⟩ hall
    have hn : (is.filter fun j => !listed.getD j false) = [] := by
      refine List.filter_eq_nil_iff.2 (fun j hj => ?_)
      have := hall j (hlt j hj)
      rw [getD_tf (by rw [hsz]; exact hlt j hj) true false] at this
      simp [this]
    rw [hn] at hseq
    unfold wpPar at hseq
    exact hseq
  · refine ⟨by simp, (fun i j _ h => by rw [hz] at h; cases h), h0, is.length, ?_⟩
    have hn : (is.filter fun j => !(Array.replicate ops.size false).getD j false) = is := List.filter_eq_self.2 (fun j _ => by rw [hz]; rfl)
    rw [hn]
    exact ⟨Nat.le_refl _, h⟩
/-! The steps of a walk. -/
section
variable {n i : Nat} {is : List Nat} {a a' : Act} {w : World} {v : Value} {d : Option Tmp} {op : Op} {t : TypeId} {pos : String} {aft : Array Edge} {g : Option (Nat × Bool)} {o : Oper}
/-- It only reads, and is wanted. -/
theorem par_val (ho : ops[i]? = some ⟨d, op, t, pos, aft, g⟩) (hw : Region.wanted ⟨d, op, t, pos, aft, g⟩ (yielded ops a.tmps) = true)
    (hy : ∀ w, S w → (execOp a.eval ⟨d, op, t, pos, aft, g⟩).run P w = .ok (.value v) w) (ha : a.put d v = a') (hr : wpPar P md ops Q S ch n is a' w) : wpPar P md ops Q S ch (n + 1) (i :: is) a w :=
  Or.inl ⟨_, v, ho, Or.inl ⟨hw, hy⟩, by rw [ha]; exact hr⟩
/-- It isn't wanted. -/
theorem par_off (ho : ops[i]? = some ⟨d, op, t, pos, aft, g⟩) (hw : Region.wanted ⟨d, op, t, pos, aft, g⟩ (yielded ops a.tmps) = false)
    (ha : a.put d undef = a') (hr : wpPar P md ops Q S ch n is a' w) : wpPar P md ops Q S ch (n + 1) (i :: is) a w :=
  Or.inl ⟨_, undef, ho, Or.inr ⟨hw, rfl⟩, by rw [ha]; exact hr⟩
/-- Those that may come next, one by one. -/
def Each (P : Program) (md : Region.Mode) (ops : Array Oper) (Q : Exit → Act → World → Prop) (S : World → Prop) (ch : List Nat) (n : Nat) (l : List Nat) (a : Act) (w : World) : List Nat → Prop
  | [] => True
  | j :: js => wpOp P ops Q j (fun a' w' => S w' ∧ wpPar P md ops Q S ch n (l.filter fun k => !Nat.beq k j) a' w') a w ∧ Each P md ops Q S ch n l a w js
theorem each_all : ∀ (js : List Nat) {l : List Nat}, Each P md ops Q S ch n l a w js → ∀ j ∈ js, wpOp P ops Q j (fun a' w' => S w' ∧ wpPar P md ops Q S ch n (l.filter fun k => !Nat.beq k j) a' w') a w
  | [], _, _, _, h => by cases h
  | x :: xs, _, h, j, hj => by
    rcases List.mem_cons.1 hj with e | e
    · rw [e]; exact h.1
    · exact each_all xs h.2 j e
theorem par_each (js : List Nat) (hc : ch.contains i = true) (hj : alts md ops ch (i :: is) = js) (h : Each P md ops Q S ch n (i :: is) a w js) : wpPar P md ops Q S ch (n + 1) (i :: is) a w :=
  Or.inr ⟨hc, by rw [hj]; exact each_all js h⟩
theorem each_nil {l : List Nat} : Each P md ops Q S ch n l a w [] := trivial
theorem each_op {l l' js : List Nat} (ho : ops[i]? = some ⟨d, op, t, pos, aft, g⟩) (hw : Region.wanted ⟨d, op, t, pos, aft, g⟩ (yielded ops a.tmps) = true) (hl : (l.filter fun k => !Nat.beq k i) = l')
    (h : ∀ K : Act → World → Prop, (∀ a' w', S w' → wpPar P md ops Q S ch n l' a' w' → K a' w') → Oper.wp P ⟨d, op, t, pos, aft, g⟩ a w K Q) (hs : Each P md ops Q S ch n l a w js) : Each P md ops Q S ch n l a w (i :: js) := by
  refine ⟨?_, hs⟩
  refine wpOp_step ho (fun K' hK => ?_)
  rw [if_pos hw, hl] at *
  exact h K' (fun a' w' hS hr => hK a' w' ⟨hS, hr⟩)
theorem each_stp {l l' js : List Nat} (ho : ops[i]? = some o) (hl : (l.filter fun k => !Nat.beq k i) = l')
    (h : ∀ K : Act → World → Prop, (∀ a' w', S w' → wpPar P md ops Q S ch n l' a' w' → K a' w') → if Region.wanted o (yielded ops a.tmps) = true then Oper.wp P o a w K Q else K (a.put o.dst undef) w) (hs : Each P md ops Q S ch n l a w js) : Each P md ops Q S ch n l a w (i :: js) := by
  refine ⟨?_, hs⟩
  refine wpOp_step ho (fun K' hK => ?_)
  rw [hl] at hK
  exact h K' (fun a' w' hS hr => hK a' w' ⟨hS, hr⟩)
theorem par_nil (h : Q .normal a w) : wpPar P md ops Q S ch n [] a w := by unfold wpPar; exact h
theorem par_fr (ha : a = a') (hr : wpPar P md ops Q S ch n is a' w) : wpPar P md ops Q S ch n is a w := by rw [ha]; exact hr
end
end
end Go.Proofs.Ytckkcgkgfkgfdaa.Par
