/- A region that draws its order, by what each of its operations yields: whatever the order, the end is the same. -/
import Derived.RegionTactic
namespace Go.Proofs.Ytgikjgekdeaneaa.Cert
section
variable {P : Program} {ops : Array Oper} {md : Region.Mode} {Q : Exit → Act → World → Prop}
theorem cnt_set : ∀ (l : List Bool) (i : Nat), (l[i]?).getD true = false → (l.set i true).countP (!·) + 1 = l.countP (!·)
  | [], i, h => by simp at h
  | b :: l, 0, h => by
    have hb : b = false := by simpa using h
    subst hb
    simp
  | b :: l, i + 1, h => by
    have := cnt_set l i (by simpa using h)
    simp only [List.set_cons_succ, List.countP_cons]
    omega
theorem cnt_zero : ∀ (l : List Bool) (i : Nat), l.countP (!·) = 0 → (l[i]?).getD true = true
  | [], i, h => by simp
  | b :: l, 0, h => by
    cases b
    · simp at h
    · simp
  | b :: l, i + 1, h => by
    have := cnt_zero l i (by simp only [List.countP_cons] at h; omega)
    simpa using this
theorem getD_list (l : Array Bool) (i : Nat) (d : Bool) : l.getD i d = (l.toList[i]?).getD d := by
  rw [Array.getD_eq_getD_getElem?, Array.getElem?_toList]
/-- Each edge leads back. -/
def backB (ops : Array Oper) : Bool := (List.range ops.size).all fun i => match ops[i]? with | some o => o.after.all fun e => decide (e.on < i) | none => true
theorem backB_at (h : backB ops = true) {i : Nat} {o : Oper} (ho : ops[i]? = some o) : ∀ e ∈ o.after, e.on < i := by
  intro e he
  have hi : i < ops.size := (Array.getElem?_eq_some_iff.1 ho).1
  have h1 := List.all_eq_true.1 h i (List.mem_range.2 hi)
  rw [ho] at h1
  exact of_decide_eq_true (Array.all_eq_true'.1 h1 e he)
/-- Nothing may come up: all has come up. -/
theorem done_all (h : backB ops = true) {listed : Array Bool} (hsz : listed.size = ops.size) (hr : Region.ready md ops listed = []) : ∀ i, i < ops.size → listed.getD i true = true := by
  intro i
  induction i using Nat.strongRecOn with
  | _ i ih =>
    intro hi
    cases hl : listed.getD i true with
    | true => rfl
    | false =>
      have hm : i ∈ Region.ready md ops listed := by
        refine mem_ready.2 ⟨hl, ops[i], Array.getElem?_eq_getElem hi, fun e he _ => ?_⟩
        have hb := backB_at h (Array.getElem?_eq_getElem hi) e he
        have h1 := ih e.on hb (by omega)
        have h2 : e.on < listed.size := by omega
        simp [h2] at h1 ⊢
        exact h1
      rw [hr] at hm
      cases hm
/-- The law: what holds ahead, what each operation that may come next keeps, and what the end wants of it. -/
theorem wpAny_inv (I : Array Bool → Act → World → Prop) (hb : backB ops = true) (hsz : ∀ listed a w, I listed a w → listed.size = ops.size)
    (hs : ∀ listed a w, I listed a w → ∀ i, i < ops.size → listed.getD i true = false → (∀ o, ops[i]? = some o → ∀ e ∈ o.after, Region.binds md e = true → listed.getD e.on false = true) →
      wpOp P ops Q i (fun a' w' => I (listed.setIfInBounds i true) a' w') a w)
    (he : ∀ listed a w, I listed a w → (∀ i, i < ops.size → listed.getD i true = true) → Q .normal a w) :
    ∀ (fuel : Nat) (listed : Array Bool) (a : Act) (w : World), listed.toList.countP (!·) ≤ fuel → I listed a w → wpAny P md ops Q fuel listed a w := by
  intro fuel
  induction fuel with
  | zero =>
    intro listed a w hf hI
    have hr : Region.ready md ops listed = [] := by
      cases hr : Region.ready md ops listed with
      | nil => rfl
      | cons i rs =>
        have hi : i ∈ Region.ready md ops listed := by rw [hr]; exact List.mem_cons_self
        have h1 := (mem_ready.1 hi).1
        rw [getD_list, cnt_zero _ _ (Nat.le_zero.1 hf)] at h1
        cases h1
    exact ⟨hr, he _ _ _ hI (done_all hb (hsz _ _ _ hI) hr)⟩
  | succ f ih =>
    intro listed a w hf hI
    refine ⟨fun hr => he _ _ _ hI (done_all hb (hsz _ _ _ hI) hr), fun i hi => ?_⟩
    obtain ⟨hun, o, ho, hall⟩ := mem_ready.1 hi
    refine wpOp_mono (fun a' w' hI' => ih _ _ _ ?_ hI') (hs _ _ _ hI i (Array.getElem?_eq_some_iff.1 ho).1 hun (fun o' ho' => by rw [ho] at ho'; cases ho'; exact hall))
    rw [Array.toList_setIfInBounds]
    have := cnt_set listed.toList i (by rw [← getD_list]; exact hun)
    omega
/-- What has come up, and one more. -/
def upd (b : Nat → Bool) (i : Nat) : Nat → Bool := fun j => Nat.beq j i || b j
/-- Does operation i wait for j? -/
def depB (md : Region.Mode) (ops : Array Oper) (i j : Nat) : Bool := match ops[i]? with | some o => o.after.any fun e => Region.binds md e && e.on == j | none => false
theorem getD_tf {listed : Array Bool} {i : Nat} (h : i < listed.size) (d e : Bool) : listed.getD i d = listed.getD i e := by simp [h]
theorem set_upd {listed : Array Bool} {i : Nat} (h : i < listed.size) : (fun j => (listed.setIfInBounds i true).getD j false) = upd (fun j => listed.getD j false) i := by
  funext j
  unfold upd
  by_cases e : i = j
  · subst e
    simp [h]
  · rw [getD_set_ne false e]
    have h1 : Nat.beq j i = false := by
      cases h2 : Nat.beq j i with
      | false => rfl
      | true => exact (e (Nat.eq_of_beq_eq_true h2).symm).elim
    rw [h1]
    rfl
/-- What stands where one of the region's stores puts what it holds: its value once it has come up, what stood there ahead of it. -/
def sl {α : Type} (b : Bool) (v u : α) : α := match b with | true => v | false => u
theorem sl_t {α : Type} (v u : α) : sl true v u = v := rfl
theorem sl_f {α : Type} (v u : α) : sl false v u = u := rfl
end
end Go.Proofs.Ytgikjgekdeaneaa.Cert
