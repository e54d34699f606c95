/- A region that draws its order, by what each of its operations yields: whatever the order, the end is the same. -/
import Derived.RegionTactic
namespace Go.Proofs.Ytgikjgekdeaneaa.Cert
section
variable {P : Program} {ops : Array Oper} {md : Region.Mode} {Q : Exit → Act → World → Prop}
theorem cnt_set : ∀ (l : List Bool) (i : Nat), (l[i]?).getD true = false → (l.set i true).countP (!·) + 1 = l.countP (!·)
  | [], i, h => by simp at h
  | b :: l, 0, h => by
    have hb : b = false := by simpa using h
    subst hb
    simp
  | b :: l, i + 1, h => by
    have := cnt_set l i (by simpa using h)
    simp only [List.set_cons_succ, List.countP_cons]
    omega
theorem cnt_zero : ∀ (l : List Bool) (i : Nat), l.countP (!·) = 0 → (l[i]?).getD true = true
  | [], i, h => by simp
  | b :: l, 0, h => by
    cases b
    · simp at h
    · simp
  | b :: l, i + 1, h => by
    have := cnt_zero l i (by simp only [List.countP_cons] at h; omega)
    simpa using this
theorem getD_list (l : Array Bool) (i : Nat) (d : Bool) : l.getD i d = (l.toList[i]?).getD d := by
  rw [Array.getD_eq_getD_getElem?, Array.getElem?_toList]
/-- Each edge leads back. -/
def backB (ops : Array Oper) : Bool := (List.range ops.size).all fun i => match ops[i]? with | some o => o.after.all fun e => decide (e.on < i) | none => true
theorem backB_at (h : backB ops = true) {i : Nat} {o : Oper} (ho : ops[i]? = some o) : ∀ e ∈ o.after, e.on < i := by
  intro e he
  have hi : i < ops.size := (Array.getElem?_eq_some_iff.1 ho).1
  have h1 := List.all_eq_true.1 h i (List.mem_range.2 hi)
  rw [ho] at h1
  exact of_decide_eq_true (Array.all_eq_true'.1 h1 e he)
/-- Nothing may come up: all has come up. -/
theorem done_all (h : backB ops = true) {listed : Array Bool} (hsz : listed.size = ops.size) (hr : Region.ready md ops listed = []) : ∀ i, i < ops.size → listed.getD i true = true := by
  intro i
  induction i using Nat.strongRecOn with
  | _ i ih =>
    intro hi
    cases hl : listed.getD i true with
    | true => rfl
    | false =>
      have hm : i ∈ Region.ready md ops listed := by
        refine mem_ready.2 ⟨hl, ops[i], Array.getElem?_eq_getElem hi, fun e he _ => ?_⟩
        have hb := backB_at h (Array.getElem?_eq_getElem hi) e he
        have h1 := ih e.on hb (by omega)
        have h2 : e.on < listed.size := by omega
        simp [h2] at h1 ⊢
        exact h1
      rw [hr] at hm
      cases hm
/-- The law: what holds ahead, what each operation that may come next keeps, and what the end wants of it. -/
theorem wpAny_inv (I : Array Bool → Act → World → Prop) (hb : backB ops = true) (hsz : ∀ listed a w, I listed a w → listed.size = ops.size)
    (hs : ∀ listed a w, I listed a w → ∀ i, i < ops.size → listed.getD i true = false → (∀ o, ops[i]? = some o → ∀ e ∈ o.after, Region.binds md e = true → listed.getD e.on false = true) →
      wpOp P ops Q i (fun a' w' => I (listed.setIfInBounds i true) a' w') a w)
    (he : ∀ listed a w, I listed a w → (∀ i, i < ops.size → listed.getD i true = true) → Q .normal a w) :
    ∀ (fuel : Nat) (listed : Array Bool) (a : Act) (w : World), listed.toList.countP (!·) ≤ fuel → I listed a w → wpAny P md ops Q fuel listed a w := by
  intro fuel
  induction fuel with
  | zero =>
    intro listed a w hf hI
    have hr : Region.ready md ops listed = [] := by
      cases hr : Region.ready md ops listed with
      | nil => rfl
      | cons i rs =>
        have hi : i ∈ Region.ready md ops listed := by rw [hr]; exact List.mem_cons_self
        have h1 := (mem_ready.1 hi).1
        rw [getD_list, cnt_zero _ _ (Nat.le_zero.1 hf)] at h1
        cases h1
    exact ⟨hr, he _ _ _ hI (done_all hb (hsz _ _ _ hI) hr)⟩
  | succ f ih =>
    intro listed a w hf hI
    refine ⟨fun hr => he _ _ _ hI (done_all hb (hsz _ _ _ hI) hr), fun i hi => ?_⟩
    obtain ⟨hun, o, ho, hall⟩ := mem_ready.1 hi
    refine wpOp_mono (fun a' w' hI' => ih _ _ _ ?_ hI') (hs _ _ _ hI i (Array.getElem?_eq_some_iff.1 ho).1 hun (fun o' ho' => by rw [ho] at ho'; cases ho'; exact hall))
    rw [Array.toList_setIfInBounds]
    have := cnt_set listed.toList i (by rw [← getD_list]; exact hun)
    omega
/-- Where an operation puts what it yields. -/
def dstOf (ops : Array Oper) (i : Nat) : Option Tmp := (ops[i]?).bind (·.dst)
/-- The frame behind the first n operations. -/
def fin (ops : Array Oper) (vals : Nat → Value) (a : Act) : Nat → Act
  | 0 => a
  | n + 1 => (fin ops vals a n).put (dstOf ops n) (vals n)
theorem put_size (a : Act) (d : Option Tmp) (v : Value) : (a.put d v).tmps.size = a.tmps.size := by
  cases d <;> simp [Act.put]
theorem put_defs (a : Act) (d : Option Tmp) (v : Value) : (a.put d v).defers = a.defers := by
  cases d <;> rfl
theorem put_get_ne (a : Act) (d : Option Tmp) (v : Value) (t : Tmp) (h : d ≠ some t) : (a.put d v).tmps[t]? = a.tmps[t]? := by
  cases d with
  | none => rfl
  | some d =>
    have hne : d ≠ t := fun e => h (by rw [e])
    simp [Act.put, Array.getElem?_setIfInBounds_ne hne]
theorem put_get (a : Act) (v : Value) (t : Tmp) : (a.put (some t) v).tmps[t]? = if t < a.tmps.size then some v else none := by
  simp [Act.put, Array.getElem?_setIfInBounds]
theorem fin_size (vals : Nat → Value) (a : Act) : ∀ n, (fin ops vals a n).tmps.size = a.tmps.size
  | 0 => rfl
  | n + 1 => by rw [fin, put_size, fin_size vals a n]
theorem fin_defs (vals : Nat → Value) (a : Act) : ∀ n, (fin ops vals a n).defers = a.defers
  | 0 => rfl
  | n + 1 => by rw [fin, put_defs, fin_defs vals a n]
theorem fin_other (vals : Nat → Value) (a : Act) (t : Tmp) : ∀ n, (∀ i, i < n → dstOf ops i ≠ some t) → (fin ops vals a n).tmps[t]? = a.tmps[t]?
  | 0, _ => rfl
  | n + 1, h => by rw [fin, put_get_ne _ _ _ _ (h n (by omega)), fin_other vals a t n (fun i hi => h i (by omega))]
theorem fin_at (vals : Nat → Value) (a : Act) (t : Tmp) : ∀ n i, i < n → dstOf ops i = some t → (∀ j, j < n → dstOf ops j = some t → j = i) → (fin ops vals a n).tmps[t]? = if t < a.tmps.size then some (vals i) else none
  | 0, i, h, _, _ => by omega
  | n + 1, i, hi, hd, hu => by
    by_cases e : i = n
    · subst e
      rw [fin, hd, put_get, fin_size]
    · rw [fin, put_get_ne _ _ _ _ (fun h => e (hu n (by omega) h).symm)]
      exact fin_at vals a t n i (by omega) hd (fun j hj h => hu j (by omega) h)
/-- Each operation looks only at what it waits for, and at what the region does not make; no two make the same. -/
def lookB (md : Region.Mode) (ops : Array Oper) : Bool :=
  (List.range ops.size).all fun i => match ops[i]? with
    | some o => (o.looksAt ops).all (fun t => (List.range ops.size).all fun j => dstOf ops j != some t || o.after.any fun e => Region.binds md e && e.on == j)
    | none => true
def uniqB (ops : Array Oper) : Bool :=
  (List.range ops.size).all fun i => (List.range i).all fun j => (dstOf ops i).isNone || dstOf ops i != dstOf ops j
theorem lookB_at (h : lookB md ops = true) {i j : Nat} {o : Oper} {t : Tmp} (ho : ops[i]? = some o) (ht : t ∈ o.looksAt ops) (hj : j < ops.size) (hd : dstOf ops j = some t) : ∃ e ∈ o.after, Region.binds md e = true ∧ e.on = j := by
  have hi : i < ops.size := (Array.getElem?_eq_some_iff.1 ho).1
  have h1 := List.all_eq_true.1 h i (List.mem_range.2 hi)
  rw [ho] at h1
  have h2 := List.all_eq_true.1 (List.all_eq_true.1 h1 t ht) j (List.mem_range.2 hj)
  rw [hd] at h2
  simp only [bne_self_eq_false, Bool.false_or] at h2
  obtain ⟨e, he, h3⟩ := Array.any_eq_true'.1 h2
  simp only [Bool.and_eq_true, beq_iff_eq] at h3
  exact ⟨e, he, h3.1, h3.2⟩
theorem uniqB_at (h : uniqB ops = true) {i j : Nat} {t : Tmp} (hi : i < ops.size) (hj : j < ops.size) (h1 : dstOf ops i = some t) (h2 : dstOf ops j = some t) : i = j := by
  have key : ∀ i j, i < ops.size → j < i → dstOf ops i = some t → dstOf ops j = some t → False := by
    intro i j hi hj h1 h2
    have h3 := List.all_eq_true.1 (List.all_eq_true.1 h i (List.mem_range.2 hi)) j (List.mem_range.2 hj)
    rw [h1, h2] at h3
    simp at h3
  rcases Nat.lt_trichotomy i j with h3 | h3 | h3
  · exact (key j i hj h3 h2 h1).elim
  · exact h3
  · exact (key i j hi h3 h1 h2).elim
/-- The post of a step: it must not panic. -/
def QF (Q : Exit → Act → World → Prop) : Exit → Act → World → Prop := fun e _ _ => e = .outgrown ∧ LetsOut Q
theorem QF_lets (a : Act) (w : World) (h : LetsOut Q) : LetsOut (QF Q) := ⟨a, w, rfl, h⟩
theorem QF_out (h : LetsOut (QF Q)) : LetsOut Q := by obtain ⟨_, _, _, h⟩ := h; exact h
/-- One operation in two frames that it cannot tell apart. -/
theorem wpOp_same {i : Nat} {a b : Act} {w : World} {K K' : Act → World → Prop} (hs : Region.noSelect ops = true)
    (hlook : ∀ o, ops[i]? = some o → ∀ t ∈ o.looksAt ops, a.tmps[t]? = b.tmps[t]?)
    (hK : ∀ (v : Value) (w' : World), K (b.put (dstOf ops i) v) w' → K' (a.put (dstOf ops i) v) w') (hi : i < ops.size)
    (hdef : ∀ (d : Deferred) w', ¬ K ({ b with defers := d :: b.defers }.put (dstOf ops i) undef) w')
    (h : wpOp P ops (QF Q) i K b w) : wpOp P ops Q i K' a w := by
  obtain ⟨o, ho⟩ : ∃ o, ops[i]? = some o := ⟨ops[i], Array.getElem?_eq_getElem hi⟩
  have hdo : dstOf ops i = o.dst := by unfold dstOf; rw [ho]; rfl
  rw [hdo] at hK hdef
  have hex : execOp a.eval o = execOp b.eval o := execOp_congr o (fun cs b' => Region.noSelect_spec hs i o cs b' ho) fun x hx => by
    cases x with
    | tmp t =>
      have h1 := hlook o ho t (List.mem_append_left _ (List.mem_filterMap.2 ⟨.tmp t, by simpa using hx, rfl⟩))
      show a.tmps.getD t undef = b.tmps.getD t undef
      rw [Array.getD_eq_getD_getElem?, Array.getD_eq_getD_getElem?, h1]
    | _ => rfl
  have hwa : Region.wanted o (yielded ops a.tmps) = Region.wanted o (yielded ops b.tmps) := by
    unfold Region.wanted
    cases hg : o.guard with
    | none => rfl
    | some gw =>
      obtain ⟨g, want⟩ := gw
      have hy : yielded ops a.tmps g = yielded ops b.tmps g := by
        unfold yielded
        cases ht : (ops[g]?).bind (·.dst) with
        | none => rfl
        | some t =>
          have h1 := hlook o ho t (by simp [Oper.looksAt, hg, ht])
          simp only [Option.bind_some, h1]
      simp only [hy]
  unfold wpOp at *
  simp only [ho] at *
  rw [hwa]
  split
  · rename_i hw
    simp only [hw, if_true] at h
    rcases h with h | ⟨hasks, hlets⟩
    case inr => exact .inr ⟨by unfold Oper.asks at *; rw [hex]; exact hasks, QF_out hlets⟩
    refine .inl ?_
    unfold Oper.wp at *
    rw [hex]
    generalize (execOp b.eval o).run P w = r at *
    cases r with
    | ok n w' =>
      cases n <;> simp only [Oper.upon] at h ⊢
      case value u => exact hK _ _ h
      case skip => exact hK _ _ h
      case defer d => exact (hdef _ _ h).elim
      case enter f args =>
        refine Calls.mono h fun e w'' he => ?_
        cases e with
        | returned u => exact hK _ _ he
        | panicked c => exact absurd he.1 (by simp)
        | outgrown => exact QF_out he
      case row row args => exact Rows.mono h fun u w'' he => hK _ _ he
    | halt x w' =>
      cases x <;> simp only [Oper.upon] at h ⊢
      case panic u => exact absurd h.1 (by simp)
  · rename_i hw
    simp only [hw] at h
    exact hK _ _ h
/-- What has come up, and one more. -/
def upd (b : Nat → Bool) (i : Nat) : Nat → Bool := fun j => Nat.beq j i || b j
/-- Does operation i wait for j? -/
def depB (md : Region.Mode) (ops : Array Oper) (i j : Nat) : Bool := match ops[i]? with | some o => o.after.any fun e => Region.binds md e && e.on == j | none => false
structure Inv (md : Region.Mode) (ops : Array Oper) (a0 aF : Act) (W : (Nat → Bool) → World → Prop) (listed : Array Bool) (a : Act) (w : World) : Prop where
  size : listed.size = ops.size
  defs : a.defers = aF.defers
  len : a.tmps.size = aF.tmps.size
  yes : ∀ i t, i < ops.size → dstOf ops i = some t → listed.getD i false = true → a.tmps[t]? = aF.tmps[t]?
  no : ∀ t, (∀ i, i < ops.size → dstOf ops i = some t → listed.getD i false = false) → a.tmps[t]? = a0.tmps[t]?
  closed : ∀ i j, depB md ops i j = true → listed.getD i false = true → listed.getD j false = true
  holds : W (fun i => listed.getD i false) w
theorem getD_tf {listed : Array Bool} {i : Nat} (h : i < listed.size) (d e : Bool) : listed.getD i d = listed.getD i e := by simp [h]
theorem set_upd {listed : Array Bool} {i : Nat} (h : i < listed.size) : (fun j => (listed.setIfInBounds i true).getD j false) = upd (fun j => listed.getD j false) i := by
  funext j
  unfold upd
  by_cases e : i = j
  · subst e
    simp [h]
  · rw [getD_set_ne false e]
    have h1 : Nat.beq j i = false := by
      cases h2 : Nat.beq j i with
      | false => rfl
      | true => exact (e (Nat.eq_of_beq_eq_true h2).symm).elim
    rw [h1]
    rfl
/-- The law: each operation, in the last frame, comes to what stands there; the last frame serves what follows. -/
theorem wpAny_cert {a0 : Act} {w0 : World} (vals : Nat → Value) (aF : Act) (W : (Nat → Bool) → World → Prop)
    (hs : Region.noSelect ops = true) (hb : backB ops = true) (hl : lookB md ops = true) (hu : uniqB ops = true)
    (hF : fin ops vals a0 ops.size = aF)
    (hstep : ∀ b w i, i < ops.size → W b w → b i = false → (∀ j, depB md ops i j = true → b j = true) → (∀ i j, depB md ops i j = true → b i = true → b j = true) →
      wpOp P ops (QF Q) i (fun a' w' => a' = aF ∧ W (upd b i) w') aF w)
    (he : ∀ b w, W b w → (∀ i, i < ops.size → b i = true) → Q .normal aF w)
    (h0 : W (fun _ => false) w0) : wpAny P md ops Q ops.size (Array.replicate ops.size false) a0 w0 := by
  have hFs : aF.tmps.size = a0.tmps.size := by rw [← hF, fin_size]
  have hFd : aF.defers = a0.defers := by rw [← hF, fin_defs]
  have hFo : ∀ t, (∀ i, i < ops.size → dstOf ops i ≠ some t) → aF.tmps[t]? = a0.tmps[t]? := fun t h => by rw [← hF, fin_other _ _ _ _ h]
  have hz : (fun i => (Array.replicate ops.size false).getD i false) = fun _ => false := by
    funext i
    rcases Nat.lt_or_ge i ops.size with h | h
    · simp [h]
    · simp [h]
  refine wpAny_inv (Inv md ops a0 aF W) hb (fun _ _ _ h => h.size) ?_ ?_ _ _ _ _ (by rw [Array.toList_replicate]; exact Nat.le_trans List.countP_le_length (by rw [List.length_replicate]; exact Nat.le_refl _)) ?_
  · intro listed a w I i hi hun hall
    have his : i < listed.size := by rw [I.size]; exact hi
    have hunf : listed.getD i false = false := by rw [getD_tf his false true]; exact hun
    refine wpOp_same hs (b := aF) (fun o ho t ht => ?_) (fun v w' hK => ?_) hi (fun d w' hK => ?_)
      (hstep (fun i => listed.getD i false) w i hi I.holds hunf (fun j hj => ?_) I.closed)
    · by_cases hx : ∃ j, j < ops.size ∧ dstOf ops j = some t
      · obtain ⟨j, hj, hd⟩ := hx
        obtain ⟨e, hem, hbi, hon⟩ := lookB_at hl ho ht hj hd
        refine I.yes j t hj hd ?_
        rw [← hon]
        exact hall o ho e hem hbi
      · have hn : ∀ j, j < ops.size → dstOf ops j ≠ some t := fun j hj hd => hx ⟨j, hj, hd⟩
        rw [I.no t (fun j hj hd => (hn j hj hd).elim), hFo t hn]
    · obtain ⟨hKa, hKw⟩ := hK
      refine ⟨by rw [Array.size_setIfInBounds]; exact I.size, by rw [put_defs]; exact I.defs, by rw [put_size]; exact I.len, fun k t hk hd hkl => ?_, fun t ht => ?_, fun k j hkj hkl => ?_, by rw [set_upd his]; exact hKw⟩
      · by_cases e : i = k
        · subst e
          have h1 := congrArg (fun x => x.tmps[t]?) hKa
          simp only [hd, put_get] at h1
          rw [hd, put_get, I.len]
          exact h1
        · rw [put_get_ne]
          · exact I.yes k t hk hd (by rw [getD_set_ne false e] at hkl; exact hkl)
          · exact fun h => e (uniqB_at hu hi hk h hd)
      · have hne : dstOf ops i ≠ some t := fun h => by
          have := ht i hi h
          simp [his] at this
        rw [put_get_ne _ _ _ _ hne]
        refine I.no t (fun k hk hd => ?_)
        have e : i ≠ k := fun e => hne (e ▸ hd)
        have := ht k hk hd
        rw [getD_set_ne false e] at this
        exact this
      · by_cases e : i = k
        · subst e
          refine getD_set_true ?_
          unfold depB at hkj
          cases ho : ops[i]? with
          | none => rw [ho] at hkj; cases hkj
          | some o =>
            rw [ho] at hkj
            obtain ⟨e, he, h3⟩ := Array.any_eq_true'.1 hkj
            simp only [Bool.and_eq_true, beq_iff_eq] at h3
            rw [← h3.2]
            exact hall o ho e he h3.1
        · rw [getD_set_ne false e] at hkl
          exact getD_set_true (I.closed k j hkj hkl)
    · have h1 := congrArg (fun x => x.defers.length) hK.1
      simp only [put_defs, List.length_cons] at h1
      omega
    · unfold depB at hj
      cases ho : ops[i]? with
      | none => rw [ho] at hj; cases hj
      | some o =>
        rw [ho] at hj
        obtain ⟨e, he, h3⟩ := Array.any_eq_true'.1 hj
        simp only [Bool.and_eq_true, beq_iff_eq] at h3
        rw [← h3.2]
        exact hall o ho e he h3.1
  · intro listed a w I hall
    have hall' : ∀ i, i < ops.size → listed.getD i false = true := fun i hi => by
      rw [getD_tf (by rw [I.size]; exact hi) false true]
      exact hall i hi
    have ha : a = aF := by
      obtain ⟨ta, da⟩ := a
      obtain ⟨tF, dF⟩ := aF
      have h1 : ta = tF := by
        refine Array.ext_getElem? fun t => ?_
        by_cases hx : ∃ j, j < ops.size ∧ dstOf ops j = some t
        · obtain ⟨j, hj, hd⟩ := hx
          exact I.yes j t hj hd (hall' j hj)
        · have hn : ∀ j, j < ops.size → dstOf ops j ≠ some t := fun j hj hd => hx ⟨j, hj, hd⟩
          exact (I.no t (fun j hj hd => (hn j hj hd).elim)).trans (hFo t hn).symm
      have h2 : da = dF := I.defs
      rw [h1, h2]
    rw [ha]
    exact he _ w I.holds hall'
  · refine ⟨by simp, hFd.symm, hFs.symm, fun i t hi hd h => ?_, fun t _ => rfl, fun i j _ h => ?_, by rw [hz]; exact h0⟩
    · have h1 : (Array.replicate ops.size false).getD i false = false := congrFun hz i
      rw [h1] at h
      cases h
    · have h1 : (Array.replicate ops.size false).getD i false = false := congrFun hz i
      rw [h1] at h
      cases h
/-- What stands where one of the region's stores puts what it holds: its value once it has come up, what stood there ahead of it. -/
def sl {α : Type} (b : Bool) (v u : α) : α := match b with | true => v | false => u
theorem sl_t {α : Type} (v u : α) : sl true v u = v := rfl
theorem sl_f {α : Type} (v u : α) : sl false v u = u := rfl
/-- What waits for something that hasn't come up hasn't come up. -/
theorem not_yet {c : Nat → Bool} (hcl : ∀ i j, depB md ops i j = true → c i = true → c j = true) {i j : Nat} (h : depB md ops i j = true) (hj : c j = false) : c i = false := by
  cases hc : c i with
  | false => rfl
  | true => rw [hcl i j h hc] at hj; cases hj
/-- The last frame, by a list of places and what stands there. -/
def finL : List (Option Tmp × Value) → Act → Act
  | [], a => a
  | (d, v) :: l, a => finL l (a.put d v)
theorem finL_snoc (l : List (Option Tmp × Value)) (d : Option Tmp) (v : Value) : ∀ a, finL (l ++ [(d, v)]) a = (finL l a).put d v := by
  induction l with
  | nil => intro a; rfl
  | cons x l ih => intro a; obtain ⟨d0, v0⟩ := x; exact ih _
theorem fin_finL (l : List (Option Tmp × Value)) (a : Act) (h : ∀ i, i < l.length → dstOf ops i = (l[i]?).bind (·.1)) : ∀ n, n ≤ l.length → fin ops (fun i => (l[i]?.map (·.2)).getD undef) a n = finL (l.take n) a
  | 0, _ => by simp [fin, finL]
  | n + 1, hn => by
    rw [fin, fin_finL l a h n (by omega), List.take_succ_eq_append_getElem (by omega), h n (by omega)]
    have hg : l[n]? = some l[n] := List.getElem?_eq_getElem (by omega)
    rw [hg, show l[n] = (l[n].1, l[n].2) from rfl, finL_snoc]
    rfl
def dstB (ops : Array Oper) (l : List (Option Tmp × Value)) : Bool := (List.range ops.size).all fun i => dstOf ops i == (l[i]?).bind (·.1)
/-- At a region of the program. -/
theorem wp_region_cert {id : Nat} {a0 : Act} {w0 : World} (hm : P.follows .mixedOrders = true) (L : List (Option Tmp × Value)) (aF : Act) (W : (Nat → Bool) → World → Prop)
    (hs : Region.noSelect ops = true) (hb : backB ops = true) (hl : lookB .any ops = true) (hu : uniqB ops = true) (hL : (L.length == ops.size && dstB ops L) = true)
    (hF : finL L a0 = aF)
    (h0 : W (fun _ => false) w0.drew)
    (hstep : ∀ b w i, i < ops.size → W b w → b i = false → (∀ j, depB .any ops i j = true → b j = true) → (∀ i j, depB .any ops i j = true → b i = true → b j = true) →
      wpOp P ops (QF Q) i (fun a' w' => a' = aF ∧ W (upd b i) w') aF w)
    (he : ∀ b w, W b w → (∀ i, i < ops.size → b i = true) → Q .normal aF w) : (Code.region id ops true).wp P Q a0 w0 := by
  simp only [Bool.and_eq_true, beq_iff_eq] at hL
  refine wp_region_any hm (wpAny_cert (fun i => (L[i]?.map (·.2)).getD undef) aF W hs hb hl hu ?_ hstep he h0)
  rw [← hL.1, fin_finL L a0 (fun i hi => ?_) _ (Nat.le_refl _), List.take_length]
  · exact hF
  · have h1 := List.all_eq_true.1 hL.2 i (List.mem_range.2 (by omega))
    exact beq_iff_eq.1 h1
/-- The same where the world keeps one condition throughout. -/
theorem wp_region_keep {id : Nat} {a0 : Act} {w0 : World} (hm : P.follows .mixedOrders = true) (L : List (Option Tmp × Value)) (aF : Act) (S : World → Prop)
    (hs : Region.noSelect ops = true) (hb : backB ops = true) (hl : lookB .any ops = true) (hu : uniqB ops = true) (hL : (L.length == ops.size && dstB ops L) = true)
    (hF : finL L a0 = aF) (h0 : S w0.drew)
    (hstep : ∀ w i, i < ops.size → S w → wpOp P ops (QF Q) i (fun a' w' => a' = aF ∧ S w') aF w)
    (he : ∀ w, S w → Q .normal aF w) : (Code.region id ops true).wp P Q a0 w0 :=
  wp_region_cert hm L aF (fun _ => S) hs hb hl hu hL hF h0 (fun _ w i hi hS _ _ _ => hstep w i hi hS) (fun _ w hS _ => he w hS)
/-! Where what one operation yields is not known ahead (a call that makes memory): it, and what hangs on it, by a letter. -/
section
variable {ι : Type}
structure InvX (md : Region.Mode) (ops : Array Oper) (a0 : Act) (aF : ι → Act) (W : (Nat → Bool) → ι → World → Prop) (listed : Array Bool) (a : Act) (w : World) (x : ι) : Prop where
  size : listed.size = ops.size
  defs : a.defers = a0.defers
  len : a.tmps.size = a0.tmps.size
  yes : ∀ i t, i < ops.size → dstOf ops i = some t → listed.getD i false = true → a.tmps[t]? = (aF x).tmps[t]?
  no : ∀ t, (∀ i, i < ops.size → dstOf ops i = some t → listed.getD i false = false) → a.tmps[t]? = a0.tmps[t]?
  closed : ∀ i j, depB md ops i j = true → listed.getD i false = true → listed.getD j false = true
  holds : W (fun i => listed.getD i false) x w
/-- What hangs on operation k: it, and what waits for such a one. -/
def hangB (md : Region.Mode) (ops : Array Oper) (dep : Nat → Bool) (k : Nat) : Bool :=
  (List.range ops.size).all fun j => !dep j || Nat.beq j k || (List.range j).any fun j' => dep j' && depB md ops j j'
theorem hang_no {dep : Nat → Bool} {k : Nat} (h : hangB md ops dep k = true) {b : Nat → Bool} (hcl : ∀ i j, depB md ops i j = true → b i = true → b j = true) (hk : b k = false) :
    ∀ j, j < ops.size → dep j = true → b j = false := by
  intro j
  induction j using Nat.strongRecOn with
  | _ j ih =>
    intro hj hd
    have h1 := List.all_eq_true.1 h j (List.mem_range.2 hj)
    rw [hd] at h1
    simp only [Bool.not_true, Bool.false_or, Bool.or_eq_true] at h1
    rcases h1 with h1 | h1
    · rw [Nat.eq_of_beq_eq_true h1]; exact hk
    · obtain ⟨j', hj', h2⟩ := List.any_eq_true.1 h1
      simp only [Bool.and_eq_true] at h2
      have hlt := List.mem_range.1 hj'
      exact not_yet hcl h2.2 (ih j' hlt (by omega) h2.1)
theorem wpAny_open {a0 : Act} {w0 : World} (val : ι → Nat → Value) (aF : ι → Act) (W : (Nat → Bool) → ι → World → Prop) (k : Nat) (dep : Nat → Bool)
    (hs : Region.noSelect ops = true) (hb : backB ops = true) (hl : lookB md ops = true) (hu : uniqB ops = true) (hd : hangB md ops dep k = true)
    (hF : ∀ x, fin ops (val x) a0 ops.size = aF x) (hdep : ∀ x y j, dep j = false → val x j = val y j)
    (hstep : ∀ b x w i, i < ops.size → W b x w → b i = false → (∀ j, depB md ops i j = true → b j = true) → (∀ i j, depB md ops i j = true → b i = true → b j = true) →
      wpOp P ops (QF Q) i (fun a' w' => (a' = aF x ∧ W (upd b i) x w') ∨ (i = k ∧ ∃ y, a' = (aF x).put (dstOf ops k) (val y k) ∧ W (upd b k) y w')) (aF x) w)
    (he : ∀ b x w, W b x w → (∀ i, i < ops.size → b i = true) → Q .normal (aF x) w)
    (x0 : ι) (h0 : W (fun _ => false) x0 w0) : wpAny P md ops Q ops.size (Array.replicate ops.size false) a0 w0 := by
  have hFs : ∀ x, (aF x).tmps.size = a0.tmps.size := fun x => by rw [← hF, fin_size]
  have hFd : ∀ x, (aF x).defers = a0.defers := fun x => by rw [← hF, fin_defs]
  have hFo : ∀ x t, (∀ i, i < ops.size → dstOf ops i ≠ some t) → (aF x).tmps[t]? = a0.tmps[t]? := fun x t h => by rw [← hF, fin_other _ _ _ _ h]
  have hFa : ∀ x i t, i < ops.size → dstOf ops i = some t → (aF x).tmps[t]? = if t < a0.tmps.size then some (val x i) else none := fun x i t hi h => by
    rw [← hF]
    exact fin_at _ _ t _ i hi h (fun j hj h2 => uniqB_at hu hj hi h2 h)
  have hz : (fun i => (Array.replicate ops.size false).getD i false) = fun _ => false := by
    funext i
    rcases Nat.lt_or_ge i ops.size with h | h
    · simp [h]
    · simp [h]
  refine wpAny_inv (fun listed a w => ∃ x, InvX md ops a0 aF W listed a w x) hb (fun _ _ _ ⟨_, h⟩ => h.size) ?_ ?_ _ _ _ _ (by rw [Array.toList_replicate]; exact Nat.le_trans List.countP_le_length (by rw [List.length_replicate]; exact Nat.le_refl _)) ?_
  · rintro listed a w ⟨x, I⟩ i hi hun hall
    have his : i < listed.size := by rw [I.size]; exact hi
    have hunf : listed.getD i false = false := by rw [getD_tf his false true]; exact hun
    have hdl : ∀ j, depB md ops i j = true → listed.getD j false = true := fun j hj => by
      unfold depB at hj
      cases ho : ops[i]? with
      | none => rw [ho] at hj; cases hj
      | some o =>
        rw [ho] at hj
        obtain ⟨e, he, h3⟩ := Array.any_eq_true'.1 hj
        simp only [Bool.and_eq_true, beq_iff_eq] at h3
        rw [← h3.2]
        exact hall o ho e he h3.1
    have hclo : ∀ k j, depB md ops k j = true → (listed.setIfInBounds i true).getD k false = true → (listed.setIfInBounds i true).getD j false = true := fun k j hkj hkl => by
      by_cases e : i = k
      · subst e
        exact getD_set_true (hdl j hkj)
      · rw [getD_set_ne false e] at hkl
        exact getD_set_true (I.closed k j hkj hkl)
    have hno : ∀ v t, (∀ j, j < ops.size → dstOf ops j = some t → (listed.setIfInBounds i true).getD j false = false) → (a.put (dstOf ops i) v).tmps[t]? = a0.tmps[t]? := fun v t ht => by
      have hne : dstOf ops i ≠ some t := fun h => by
        have := ht i hi h
        simp [his] at this
      rw [put_get_ne _ _ _ _ hne]
      refine I.no t (fun k hk hd => ?_)
      have e : i ≠ k := fun e => hne (e ▸ hd)
      have := ht k hk hd
      rw [getD_set_ne false e] at this
      exact this
    refine wpOp_same hs (b := aF x) (fun o ho t ht => ?_) (fun v w' hK => ?_) hi (fun d w' hK => ?_)
      (hstep (fun i => listed.getD i false) x w i hi I.holds hunf hdl I.closed)
    · by_cases hx : ∃ j, j < ops.size ∧ dstOf ops j = some t
      · obtain ⟨j, hj, hd⟩ := hx
        obtain ⟨e, hem, hbi, hon⟩ := lookB_at hl ho ht hj hd
        refine I.yes j t hj hd ?_
        rw [← hon]
        exact hall o ho e hem hbi
      · have hn : ∀ j, j < ops.size → dstOf ops j ≠ some t := fun j hj hd => hx ⟨j, hj, hd⟩
        rw [I.no t (fun j hj hd => (hn j hj hd).elim), hFo x t hn]
    · rcases hK with ⟨hKa, hKw⟩ | ⟨hik, y, hKa, hKw⟩
      · refine ⟨x, by rw [Array.size_setIfInBounds]; exact I.size, by rw [put_defs]; exact I.defs, by rw [put_size]; exact I.len, fun k t hk hd hkl => ?_, hno v, hclo, by rw [set_upd his]; exact hKw⟩
        by_cases e : i = k
        · subst e
          have h1 := congrArg (fun x => x.tmps[t]?) hKa
          simp only [hd, put_get] at h1
          rw [hd, put_get, I.len, ← hFs x]
          exact h1
        · rw [put_get_ne]
          · exact I.yes k t hk hd (by rw [getD_set_ne false e] at hkl; exact hkl)
          · exact fun h => e (uniqB_at hu hi hk h hd)
      · subst hik
        refine ⟨y, by rw [Array.size_setIfInBounds]; exact I.size, by rw [put_defs]; exact I.defs, by rw [put_size]; exact I.len, fun k t hk hd2 hkl => ?_, hno v, hclo, by rw [set_upd his]; exact hKw⟩
        by_cases e : i = k
        · subst e
          have h1 := congrArg (fun x => x.tmps[t]?) hKa
          simp only [hd2, put_get, hFs] at h1
          rw [hd2, put_get, I.len, hFa y i t hi hd2]
          exact h1
        · rw [getD_set_ne false e] at hkl
          rw [put_get_ne, I.yes k t hk hd2 hkl, hFa x k t hk hd2, hFa y k t hk hd2, hdep x y k]
          · cases hdk : dep k with
            | false => rfl
            | true =>
              have := hang_no hd I.closed hunf k hk hdk
              rw [this] at hkl
              cases hkl
          · exact fun h => e (uniqB_at hu hi hk h hd2)
    · rcases hK with ⟨hKa, _⟩ | ⟨_, y, hKa, _⟩
      · have h1 := congrArg (fun x => x.defers.length) hKa
        simp only [put_defs, List.length_cons] at h1
        omega
      · have h1 := congrArg (fun x => x.defers.length) hKa
        simp only [put_defs, List.length_cons] at h1
        omega
  · rintro listed a w ⟨x, I⟩ hall
    have hall' : ∀ i, i < ops.size → listed.getD i false = true := fun i hi => by
      rw [getD_tf (by rw [I.size]; exact hi) false true]
      exact hall i hi
    have ha : a = aF x := by
      have h1 : a.tmps = (aF x).tmps := by
        refine Array.ext_getElem? fun t => ?_
        by_cases hx : ∃ j, j < ops.size ∧ dstOf ops j = some t
        · obtain ⟨j, hj, hd⟩ := hx
          exact I.yes j t hj hd (hall' j hj)
        · have hn : ∀ j, j < ops.size → dstOf ops j ≠ some t := fun j hj hd => hx ⟨j, hj, hd⟩
          exact (I.no t (fun j hj hd => (hn j hj hd).elim)).trans (hFo x t hn).symm
      have h2 : a.defers = (aF x).defers := I.defs.trans (hFd x).symm
      cases a
      cases hx : aF x
      rw [hx] at h1 h2
      simp only at h1 h2
      rw [h1, h2]
    rw [ha]
    exact he _ x w I.holds hall'
  · refine ⟨x0, by simp, rfl, rfl, fun i t hi hd h => ?_, fun t _ => rfl, fun i j _ h => ?_, by rw [hz]; exact h0⟩
    · have h1 : (Array.replicate ops.size false).getD i false = false := congrFun hz i
      rw [h1] at h
      cases h
    · have h1 : (Array.replicate ops.size false).getD i false = false := congrFun hz i
      rw [h1] at h
      cases h
/-- At a region of the program: L x, what each operation yields; k, the one that isn't known ahead; ks, what hangs on it. -/
theorem wp_region_open {id : Nat} {a0 : Act} {w0 : World} (hm : P.follows .mixedOrders = true) (k : Nat) (ks : List Nat) (L : ι → List (Option Tmp × Value)) (aF : ι → Act) (W : (Nat → Bool) → ι → World → Prop) (x0 : ι)
    (hs : Region.noSelect ops = true) (hb : backB ops = true) (hl : lookB .any ops = true) (hu : uniqB ops = true) (hd : hangB .any ops (fun j => ks.contains j) k = true)
    (hL : ∀ x, ((L x).length == ops.size && dstB ops (L x)) = true)
    (hF : ∀ x, finL (L x) a0 = aF x) (hdep : ∀ x y j, j < ops.size → ks.contains j = false → (L x)[j]? = (L y)[j]?)
    (h0 : W (fun _ => false) x0 w0.drew)
    (hstep : ∀ b x w i, i < ops.size → W b x w → b i = false → (∀ j, depB .any ops i j = true → b j = true) → (∀ i j, depB .any ops i j = true → b i = true → b j = true) →
      wpOp P ops (QF Q) i (fun a' w' => (a' = aF x ∧ W (upd b i) x w') ∨ (i = k ∧ ∃ y, a' = (aF x).put (dstOf ops k) (((L y)[k]?.map (·.2)).getD undef) ∧ W (upd b k) y w')) (aF x) w)
    (he : ∀ b x w, W b x w → (∀ i, i < ops.size → b i = true) → Q .normal (aF x) w) : (Code.region id ops true).wp P Q a0 w0 := by
  refine wp_region_any hm (wpAny_open (fun x i => ((L x)[i]?.map (·.2)).getD undef) aF W k (fun j => ks.contains j) hs hb hl hu hd ?_ ?_ hstep he x0 h0)
  · intro x
    have h1 := hL x
    simp only [Bool.and_eq_true, beq_iff_eq] at h1
    rw [← h1.1, fin_finL (L x) a0 (fun i hi => ?_) _ (Nat.le_refl _), List.take_length]
    · exact hF x
    · have h2 := List.all_eq_true.1 h1.2 i (List.mem_range.2 (by omega))
      exact beq_iff_eq.1 h2
  · intro x y j hj
    rcases Nat.lt_or_ge j ops.size with h | h
    · show ((L x)[j]?.map (·.2)).getD undef = ((L y)[j]?.map (·.2)).getD undef
      rw [hdep x y j h hj]
    · have hx := hL x
      have hy := hL y
      simp only [Bool.and_eq_true, beq_iff_eq] at hx hy
      show ((L x)[j]?.map (·.2)).getD undef = ((L y)[j]?.map (·.2)).getD undef
      rw [List.getElem?_eq_none (by omega), List.getElem?_eq_none (by omega)]
end
end
end Go.Proofs.Ytgikjgekdeaneaa.Cert
