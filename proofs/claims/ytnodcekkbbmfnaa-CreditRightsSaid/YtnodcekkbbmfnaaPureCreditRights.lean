/- The law CreditRights, over the printed functions alone. No condition. -/
import Derived.Test.YtnodcekkbbmfnaaQCreditRightsx6
namespace Go.Proofs.Ytnodcekkbbmfnaa.Pure
open Go.RowKit Go.Proofs.Ytnodcekkbbmfnaa.QCreditRights Go.Proofs.YtnodcekkbbmfnaaW.PrintWords Go.Proofs.YtnodcekkbbmfnaaW.PrintLast Go.Proofs.YtnodcekkbbmfnaaW.PrintMore
set_option linter.unusedVariables false
set_option linter.unusedSimpArgs false
theorem w64 {n : Nat} (h : n < 4611686018427387904) : wrap64 ((n : Int) + 1) = ((n + 1 : Nat) : Int) := by unfold wrap64; omega
theorem w64_in {x : Int} (h0 : -9223372036854775808 ≤ x) (h1 : x ≤ 9223372036854775807) : wrap64 x = x := by unfold wrap64; omega
theorem u64_wrap_in {x : Int} (h0 : 0 ≤ x) (h1 : x ≤ 18446744073709551615) : IntKind.u64.wrap x = x := by rw [show IntKind.u64.wrap x = x % 18446744073709551616 from rfl]; omega
theorem i64_range {n : Int} (h : (Lit.int .i64 n).wf = true) : -9223372036854775808 ≤ n ∧ n ≤ 9223372036854775807 := by
  have h' : (decide (IntKind.i64.min ≤ n) && decide (n ≤ IntKind.i64.max)) = true := h
  have e1 : IntKind.i64.min = -9223372036854775808 := by decide
  have e2 : IntKind.i64.max = 9223372036854775807 := by decide
  rw [e1, e2] at h'
  simp only [Bool.and_eq_true, decide_eq_true_eq] at h'
  exact h'
theorem pred {k d : Nat} (h : d < k) : ∃ m, k = m + 1 := ⟨k - 1, by omega⟩
theorem rd_nat (l : List Int) (n : Nat) (h : n < l.length) : rd l (n : Int) = l[n] := by simp [rd, h]
theorem rd_mem (l : List Int) (n : Nat) (h : n < l.length) : rd l (n : Int) ∈ l := by rw [rd_nat l n h]; exact List.getElem_mem h
def cv (x : S68) : S43 := ⟨x.f0, x.f1⟩
theorem rd_cv (l : List S68) (i : Int) : rd_T43 (l.map cv) i = cv (rd_T68 l i) := by
  unfold rd_T43 rd_T68
  simp only [List.getD_eq_getElem?_getD, List.getElem?_map]
  cases l[i.toNat]? <;> rfl
theorem rd68_nat (l : List S68) (n : Nat) (h : n < l.length) : rd_T68 l (n : Int) = l[n] := by simp [rd_T68, h]
theorem to_l0 (l : List S68) (hl : l.length ≤ 1000) : ∀ d (n k : Nat), n + d = l.length → d < k → stopgatelaw03_To.l0 k l ((l.take n).map cv) (n : Int) = some (l.map cv) := by
  intro d
  induction d with
  | zero =>
    intro n k hn hk
    obtain ⟨k, rfl⟩ := pred hk
    unfold stopgatelaw03_To.l0
    rw [if_neg (by omega), List.take_of_length_le (by omega)]
  | succ d ih =>
    intro n k hn hk
    obtain ⟨k, rfl⟩ := pred hk
    unfold stopgatelaw03_To.l0
    have e : (l.take n).map cv ++ [(⟨(rd_T68 l n).f0, (rd_T68 l n).f1⟩ : S43)] = (l.take (n + 1)).map cv := by
      rw [rd68_nat l n (by omega), List.take_succ_eq_append_getElem (by omega), List.map_append]; rfl
    rw [if_pos (by omega), if_pos (by omega), if_pos (by rw [List.length_map, List.length_take]; omega), w64 (by omega), e]
    exact ih (n + 1) k (by omega) (by omega)
theorem to_f (l : List S68) (hl : l.length ≤ 1000) {k : Nat} (hk : l.length < k) : stopgatelaw03_To.f k l = some (l.map cv) := to_l0 l hl l.length 0 k (by omega) hk

def par (l : List S68) (i : Int) : Int := (rd_T68 l i).f0
def ends (l : List S68) : Nat → Int → Bool
  | 0, _ => false
  | k + 1, n => if par l n = -1 then true else ends l k (par l n)
def wrg (x : S68) (m : Int) : Int := if x.f0 ≠ -1 ∧ (x.f0 < 0 ∨ x.f0 ≥ m) then 18 else if x.f1 < 0 ∨ x.f1 > 4611686018427387904 then 1 else 0
def firstw (l : List S68) : Nat → Nat → Option (Int × Int)
  | 0, _ => none
  | d + 1, n => if wrg (rd_T68 l n) l.length = 0 then firstw l d (n + 1) else some (wrg (rd_T68 l n) l.length, (n : Int))
def longs (l : List S68) : Nat → Nat → Int × Int
  | 0, _ => (0, -1)
  | d + 1, n => if ends l 3 n = true then longs l d (n + 1) else (16, (n : Int))
def chk (l : List S68) : Int × Int := if (l.length : Int) > 32 then (11, 0) else if (l.length : Int) = 0 then (1, 0) else (firstw l l.length 0).getD (longs l l.length 0)

/-- A node by itself is right. -/
def okn (l : List S68) (n : Nat) : Prop := (par l n = -1 ∨ 0 ≤ par l n ∧ par l n < l.length) ∧ 0 ≤ (rd_T68 l n).f1 ∧ (rd_T68 l n).f1 ≤ 4611686018427387904
theorem wrg_ok {l : List S68} {n : Nat} (h : wrg (rd_T68 l n) l.length = 0) : okn l n := by
  unfold wrg at h
  unfold okn par
  split at h
  · cases h
  · split at h
    · cases h
    · omega
theorem wrong_f (x : S68) (m : Int) {k : Nat} (hk : 0 < k) : tree_Node_wrong.f k x.f0 x.f1 m = some (wrg x m) := by
  obtain ⟨k, rfl⟩ := pred hk
  unfold tree_Node_wrong.f wrg
  by_cases h1 : x.f0 = -1
  · rw [if_pos h1, if_neg (show ¬ (x.f0 ≠ -1 ∧ (x.f0 < 0 ∨ x.f0 ≥ m)) by omega)]
    simp only [tree_Node_wrong.j0]
    by_cases h2 : x.f1 < 0
    · simp [h2]
    · by_cases h3 : x.f1 > 4611686018427387904
      · simp [h2, h3]
      · simp [h2, h3]
  · rw [if_neg h1]
    by_cases h0 : x.f0 < 0
    · rw [if_pos h0, if_pos (by omega)]; simp [tree_Node_wrong.j0]
    · rw [if_neg h0]
      by_cases h4 : x.f0 ≥ m
      · rw [if_pos (by omega)]; simp [tree_Node_wrong.j0, h4]
      · rw [if_neg (by omega)]
        simp only [tree_Node_wrong.j0, h4]
        by_cases h2 : x.f1 < 0
        · simp [h2]
        · by_cases h3 : x.f1 > 4611686018427387904
          · simp [h2, h3]
          · simp [h2, h3]
theorem tree_l2 (l : List S68) (hok : ∀ n, n < l.length → okn l n) (i i' : Int) : ∀ d (j : Nat) (at_ : Int) (k : Nat), j + d = 3 → 0 ≤ at_ → at_ < l.length → d < k →
    (ends l d at_ = true → ∃ k', k ≤ k' + d + 1 ∧ tree_Check.l2 k (l.map cv) i at_ l.length i' (j : Int) = tree_Check.l1 k' (l.map cv) l.length (wrap64 (i' + 1))) ∧
    (ends l d at_ = false → tree_Check.l2 k (l.map cv) i at_ l.length i' (j : Int) = some (16, i)) := by
  intro d
  induction d with
  | zero =>
    intro j at_ k hj h0 h1 hk
    obtain ⟨k, rfl⟩ := pred hk
    refine ⟨fun h => by simp [ends] at h, fun _ => ?_⟩
    unfold tree_Check.l2
    rw [if_neg (by omega)]
  | succ d ih =>
    intro j at_ k hj h0 h1 hk
    obtain ⟨k, rfl⟩ := pred hk
    have ho := hok at_.toNat (by omega)
    have ea : ((at_.toNat : Nat) : Int) = at_ := by omega
    have hp : (rd_T43 (l.map cv) at_).f0 = par l at_ := by rw [rd_cv]; rfl
    have hu : tree_Check.l2 (k + 1) (l.map cv) i at_ l.length i' (j : Int) = (if par l at_ = -1 then tree_Check.l1 k (l.map cv) l.length (wrap64 (i' + 1)) else tree_Check.l2 k (l.map cv) i (par l at_) l.length i' ((j + 1 : Nat) : Int)) := by
      conv => lhs; unfold tree_Check.l2
      rw [if_pos (by omega), if_pos h0, if_pos (by rw [List.length_map]; exact h1), hp, w64 (by omega)]
    rw [hu]
    by_cases hm : par l at_ = -1
    · rw [if_pos hm]
      refine ⟨fun _ => ⟨k, by omega, rfl⟩, fun h => ?_⟩
      rw [ends, if_pos hm] at h; cases h
    · rw [if_neg hm]
      unfold okn at ho
      rw [ea] at ho
      have hq : 0 ≤ par l at_ ∧ par l at_ < l.length := by omega
      obtain ⟨ih1, ih2⟩ := ih (j + 1) (par l at_) k (by omega) hq.1 hq.2 (by omega)
      have he : ends l (d + 1) at_ = ends l d (par l at_) := by rw [ends, if_neg hm]
      rw [he]
      refine ⟨fun h => ?_, ih2⟩
      obtain ⟨k', h1, h2⟩ := ih1 h
      exact ⟨k', by omega, h2⟩
theorem tree_l1 (l : List S68) (hl : l.length ≤ 1000) (hok : ∀ n, n < l.length → okn l n) : ∀ d (n k : Nat), n + d = l.length → 6 * d < k → tree_Check.l1 k (l.map cv) l.length (n : Int) = some (longs l d n) := by
  intro d
  induction d with
  | zero =>
    intro n k hn hk
    obtain ⟨k, rfl⟩ := pred hk
    unfold tree_Check.l1
    rw [if_neg (by omega)]; rfl
  | succ d ih =>
    intro n k hn hk
    obtain ⟨k, rfl⟩ := pred hk
    unfold tree_Check.l1
    rw [if_pos (by omega)]
    obtain ⟨h1, h2⟩ := tree_l2 l hok (n : Int) (n : Int) 3 0 (n : Int) k (by omega) (by omega) (by omega) (by omega)
    cases he : ends l 3 n with
    | true =>
      obtain ⟨k', hk', e⟩ := h1 he
      have e' : tree_Check.l2 k (l.map cv) n n l.length n 0 = _ := e
      rw [e', w64 (by omega), ih (n + 1) k' (by omega) (by omega)]
      rw [longs, if_pos he]
    | false =>
      have e' : tree_Check.l2 k (l.map cv) n n l.length n 0 = _ := h2 he
      rw [e', longs, if_neg (by rw [he]; simp)]
theorem tree_l0 (l : List S68) (hl : l.length ≤ 1000) : ∀ d (n k : Nat), n + d = l.length → (∀ j, j < n → okn l j) → 6 * l.length + d + 2 < k → tree_Check.l0 k (l.map cv) (l.map cv) l.length (n : Int) = some ((firstw l d n).getD (longs l l.length 0)) := by
  intro d
  induction d with
  | zero =>
    intro n k hn hok hk
    obtain ⟨k, rfl⟩ := pred hk
    unfold tree_Check.l0
    rw [if_neg (by omega), List.length_map]
    exact tree_l1 l hl (fun j hj => hok j (by omega)) l.length 0 k (by omega) (by omega)
  | succ d ih =>
    intro n k hn hok hk
    obtain ⟨k, rfl⟩ := pred hk
    unfold tree_Check.l0
    rw [if_pos (by omega), if_pos (by omega), if_pos (by rw [List.length_map]; omega), rd_cv, List.length_map]
    show (tree_Node_wrong.f k (rd_T68 l n).f0 (rd_T68 l n).f1 l.length).bind _ = _
    rw [wrong_f _ _ (by omega), Option.bind_some]
    unfold firstw
    by_cases hw : wrg (rd_T68 l n) l.length = 0
    · rw [if_pos hw, if_pos hw, w64 (by omega)]
      exact ih (n + 1) k (by omega) (fun j hj => by
        rcases Nat.lt_or_ge j n with h | h
        · exact hok j h
        · obtain rfl : j = n := by omega
          exact wrg_ok hw) (by omega)
    · rw [if_neg hw, if_neg hw]; rfl
theorem tree_check (l : List S68) {k : Nat} (hk : 300 ≤ k) : tree_Check.f k (l.map cv) = some (chk l) := by
  unfold tree_Check.f chk
  rw [List.length_map]
  by_cases h1 : (l.length : Int) > 32
  · rw [if_pos h1, if_pos h1]
  · rw [if_neg h1, if_neg h1]
    by_cases h2 : (l.length : Int) = 0
    · rw [if_pos h2, if_pos h2]
    · rw [if_neg h2, if_neg h2]
      exact tree_l0 l (by omega) l.length 0 k (by omega) (fun j hj => absurd hj (Nat.not_lt_zero _)) (by omega)
/-- The path from a node up, of as many as may be; was that all? -/
def clm (l : List S68) : Nat → Int → List Int × Bool
  | 0, n => ([], !(decide (0 ≤ n) && decide (n < l.length)))
  | k + 1, n => if 0 ≤ n ∧ n < l.length then (n :: (clm l k (par l n)).1, (clm l k (par l n)).2) else ([], true)
theorem clm_out {l : List S68} {k : Nat} {n : Int} (h : ¬ (0 ≤ n ∧ n < l.length)) : clm l k n = ([], true) := by
  cases k with
  | zero =>
    unfold clm
    by_cases h0 : 0 ≤ n
    · have : ¬ n < l.length := fun h' => h ⟨h0, h'⟩
      simp [h0, this]
    · simp [h0]
  | succ k => unfold clm; rw [if_neg h]
theorem climb_l0 (l : List S68) : ∀ d (n : Int) (out : List Int) (k : Nat), out.length + d = 3 → 2 * d + 2 < k → stopgateref03_climb.l0 k l n out = some (out ++ (clm l d n).1, (clm l d n).2) := by
  intro d
  induction d with
  | zero =>
    intro n out k ho hk
    obtain ⟨k, rfl⟩ := pred hk
    obtain ⟨k, rfl⟩ := pred (show 0 < k by omega)
    unfold stopgateref03_climb.l0
    by_cases h : 0 ≤ n ∧ n < l.length
    · rw [if_pos h.1]
      unfold stopgateref03_climb.j1
      rw [if_pos (by simpa using h.2), if_pos (by omega)]
      simp [clm, h.1, h.2]
    · rw [clm_out h]
      by_cases h0 : n ≥ 0
      · rw [if_pos h0]
        have : ¬ n < l.length := fun h' => h ⟨h0, h'⟩
        simp [stopgateref03_climb.j1, this]
      · rw [if_neg h0]; simp [stopgateref03_climb.j1]
  | succ d ih =>
    intro n out k ho hk
    obtain ⟨k, rfl⟩ := pred hk
    obtain ⟨k, rfl⟩ := pred (show 0 < k by omega)
    unfold stopgateref03_climb.l0
    by_cases h : 0 ≤ n ∧ n < l.length
    · rw [if_pos h.1]
      unfold stopgateref03_climb.j1
      rw [if_pos (by simpa using h.2), if_neg (by omega), if_pos (by omega), if_pos h.1, if_pos h.2, ih _ _ k (by simp; omega) (by omega)]
      rw [clm, if_pos h]
      simp [par]
    · rw [clm_out h]
      by_cases h0 : n ≥ 0
      · rw [if_pos h0]
        have : ¬ n < l.length := fun h' => h ⟨h0, h'⟩
        simp [stopgateref03_climb.j1, this]
      · rw [if_neg h0]; simp [stopgateref03_climb.j1]
theorem climb_f (l : List S68) (n : Int) {k : Nat} (hk : 10 ≤ k) : stopgateref03_climb.f k l n = some (clm l 3 n) := by
  have := climb_l0 l 3 n [] k rfl (by omega)
  rw [List.nil_append] at this
  exact this
theorem clm_ends (l : List S68) (hok : ∀ n, n < l.length → okn l n) : ∀ d (n : Int), 0 ≤ n → n < l.length → (clm l d n).2 = ends l d n := by
  intro d
  induction d with
  | zero => intro n h0 h1; simp [clm, ends, h0, h1]
  | succ d ih =>
    intro n h0 h1
    have ho := hok n.toNat (by omega)
    have ea : ((n.toNat : Nat) : Int) = n := by omega
    unfold okn at ho
    rw [ea] at ho
    unfold clm ends
    rw [if_pos ⟨h0, h1⟩]
    by_cases hm : par l n = -1
    · rw [if_pos hm]
      show (clm l d (par l n)).2 = true
      rw [clm_out (by omega)]
    · rw [if_neg hm]
      exact ih _ (by omega) (by omega)
theorem rcheck_l1 (l : List S68) (hl : l.length ≤ 1000) (hok : ∀ n, n < l.length → okn l n) : ∀ d (n k : Nat), n + d = l.length → d + 10 < k → stopgateref03_Check.l1 k l (n : Int) = some (longs l d n) := by
  intro d
  induction d with
  | zero =>
    intro n k hn hk
    obtain ⟨k, rfl⟩ := pred hk
    unfold stopgateref03_Check.l1
    rw [if_neg (by omega)]; rfl
  | succ d ih =>
    intro n k hn hk
    obtain ⟨k, rfl⟩ := pred hk
    unfold stopgateref03_Check.l1 longs
    rw [if_pos (by omega), climb_f l n (by omega), Option.bind_some, clm_ends l hok 3 n (by omega) (by omega), w64 (by omega), ih (n + 1) k (by omega) (by omega)]
    by_cases he : ends l 3 n = true
    · rw [if_pos he, if_pos he]
    · rw [if_neg he, if_neg he]
theorem rcheck_l0 (l : List S68) (hl : l.length ≤ 1000) : ∀ d (n k : Nat), n + d = l.length → (∀ j, j < n → okn l j) → 2 * d + l.length + 20 < k → stopgateref03_Check.l0 k l (n : Int) = some ((firstw l d n).getD (longs l l.length 0)) := by
  intro d
  induction d with
  | zero =>
    intro n k hn hok hk
    obtain ⟨k, rfl⟩ := pred hk
    unfold stopgateref03_Check.l0
    rw [if_neg (by omega)]
    exact rcheck_l1 l hl (fun j hj => hok j (by omega)) l.length 0 k (by omega) (by omega)
  | succ d ih =>
    intro n k hn hok hk
    obtain ⟨k, rfl⟩ := pred hk
    obtain ⟨k, rfl⟩ := pred (show 0 < k by omega)
    have hj : ∀ b, stopgateref03_Check.j1 (k + 1) l n b = if b = true then some (18, (n : Int)) else if (rd_T68 l n).f1 < 0 then some (1, (n : Int)) else if (rd_T68 l n).f1 > 4611686018427387904 then some (1, (n : Int)) else stopgateref03_Check.l0 k l ((n + 1 : Nat) : Int) := by
      intro b
      conv => lhs; unfold stopgateref03_Check.j1
      rw [if_pos (show (0 : Int) ≤ n by omega), if_pos (show (n : Int) < l.length by omega), w64 (by omega)]
    unfold stopgateref03_Check.l0
    rw [if_pos (by omega), if_pos (by omega), hj, hj]
    unfold firstw
    by_cases hw : wrg (rd_T68 l n) l.length = 0
    · have ho := wrg_ok hw
      unfold okn par at ho
      rw [if_pos hw, if_neg (by omega), if_neg (by simp; omega), if_neg (by omega), if_neg (by omega)]
      exact ih (n + 1) k (by omega) (fun j hj => by
        rcases Nat.lt_or_ge j n with h | h
        · exact hok j h
        · obtain rfl : j = n := by omega
          exact wrg_ok hw) (by omega)
    · rw [if_neg hw]
      unfold wrg at hw ⊢
      show _ = some (_, _)
      by_cases h1 : (rd_T68 l n).f0 ≠ -1 ∧ ((rd_T68 l n).f0 < 0 ∨ (rd_T68 l n).f0 ≥ l.length)
      · rw [if_pos h1]
        by_cases h2 : (rd_T68 l n).f0 < -1
        · rw [if_pos h2, if_pos rfl]
        · rw [if_neg h2, if_pos (by simp; omega)]
      · rw [if_neg h1] at hw ⊢
        have h3 : (rd_T68 l n).f1 < 0 ∨ (rd_T68 l n).f1 > 4611686018427387904 := by
          refine Decidable.byContradiction fun h => hw ?_
          rw [if_neg h]
        rw [if_pos h3, if_neg (by omega), if_neg (by simp; omega)]
        by_cases h4 : (rd_T68 l n).f1 < 0
        · rw [if_pos h4]
        · rw [if_neg h4, if_pos (by omega)]
theorem ref_check (l : List S68) {k : Nat} (hk : 300 ≤ k) : stopgateref03_Check.f k l = some (chk l) := by
  unfold stopgateref03_Check.f chk
  by_cases h1 : (l.length : Int) > 32
  · rw [if_pos h1, if_pos h1]
  · rw [if_neg h1, if_neg h1]
    by_cases h2 : (l.length : Int) = 0
    · rw [if_pos h2, if_pos h2]
    · rw [if_neg h2, if_neg h2]
      exact rcheck_l0 l (by omega) l.length 0 k (by omega) (fun j hj => absurd hj (Nat.not_lt_zero _)) (by omega)
def inb (x : Int) : Bool := decide (0 ≤ x) && decide (x ≤ 4611686018427387904)
theorem closure_f (x : Int) : credit_Right_1.f x = some (!inb x) := by
  unfold credit_Right_1.f credit_within.f inb
  by_cases h : x ≥ 0
  · rw [if_pos h]; simp [show 0 ≤ x from h]
  · rw [if_neg h]; simp [show ¬ 0 ≤ x by omega]
def bads (u : List Int) : Nat → Nat → Bool
  | 0, _ => false
  | d + 1, n => if inb (rd u n) = true then bads u d (n + 1) else true
theorem index_l0 (u : List Int) (hu : u.length ≤ 1000) : ∀ d (n k : Nat), n + d = u.length → d < k → ∃ r, slices_IndexFunc_int64_int64.l0 k u u.length (n : Int) = some r ∧ decide (r ≥ 0) = bads u d n := by
  intro d
  induction d with
  | zero =>
    intro n k hn hk
    obtain ⟨k, rfl⟩ := pred hk
    unfold slices_IndexFunc_int64_int64.l0
    rw [if_neg (by omega)]
    exact ⟨-1, rfl, rfl⟩
  | succ d ih =>
    intro n k hn hk
    obtain ⟨k, rfl⟩ := pred hk
    unfold slices_IndexFunc_int64_int64.l0 bads
    rw [if_pos (by omega), if_pos (by omega), if_pos (by omega), closure_f, Option.bind_some]
    cases hb : inb (rd u n) with
    | true =>
      obtain ⟨r, h1, h2⟩ := ih (n + 1) k (by omega) (by omega)
      exact ⟨r, by rw [if_neg (by simp), w64 (by omega)]; exact h1, by rw [if_pos rfl]; exact h2⟩
    | false => exact ⟨n, by rw [if_pos (by simp)], by rw [if_neg (by simp)]; exact decide_eq_true (by omega)⟩
theorem contains_f (u : List Int) (hu : u.length ≤ 1000) {k : Nat} (hk : u.length < k) : slices_ContainsFunc_int64_int64.f k u = some (bads u u.length 0) := by
  unfold slices_ContainsFunc_int64_int64.f slices_IndexFunc_int64_int64.f
  obtain ⟨r, h1, h2⟩ := index_l0 u hu u.length 0 k (by omega) hk
  have h1' : slices_IndexFunc_int64_int64.l0 k u u.length 0 = some r := h1
  rw [h1', Option.bind_some, h2]
def rgt (l : List S68) (u : List Int) : Bool := decide ((chk l).1 = 0) && decide ((u.length : Int) = l.length) && !(bads u u.length 0)
theorem right_f (l : List S68) (u : List Int) (hu : u.length ≤ 40) {k : Nat} (hk : 300 ≤ k) : credit_Right.f k (l.map cv) u = some (rgt l u) := by
  unfold credit_Right.f rgt
  rw [tree_check l hk, Option.bind_some, List.length_map]
  by_cases h1 : (chk l).1 = 0
  · rw [if_pos h1]
    by_cases h2 : (u.length : Int) = l.length
    · rw [if_pos h2, contains_f u (by omega) (by omega), Option.bind_some]; simp [h1, h2]
    · rw [if_neg h2]; simp [h2]
  · rw [if_neg h1]; simp [h1]
theorem rright_l0 (l : List S68) (u : List Int) (hu : u.length ≤ 1000) : ∀ d (n k : Nat), n + d = u.length → d < k → stopgateref04_Right.l0 k (n : Int) l u = some (!bads u d n) := by
  intro d
  induction d with
  | zero =>
    intro n k hn hk
    obtain ⟨k, rfl⟩ := pred hk
    unfold stopgateref04_Right.l0
    rw [if_neg (by omega)]; rfl
  | succ d ih =>
    intro n k hn hk
    obtain ⟨k, rfl⟩ := pred hk
    unfold stopgateref04_Right.l0 bads
    rw [if_pos (by omega), if_pos (by omega), w64 (by omega), ih (n + 1) k (by omega) (by omega)]
    unfold inb
    by_cases h1 : rd u n < 0
    · simp [h1, show ¬ 0 ≤ rd u n by omega]
    · by_cases h2 : rd u n > 4611686018427387904
      · simp [h1, h2, show ¬ rd u n ≤ 4611686018427387904 by omega]
      · simp [h1, h2, show 0 ≤ rd u n by omega, show rd u n ≤ 4611686018427387904 by omega]
theorem rright_f (l : List S68) (u : List Int) (hu : u.length ≤ 40) {k : Nat} (hk : 300 ≤ k) : stopgateref04_Right.f k l u = some (rgt l u) := by
  unfold stopgateref04_Right.f rgt
  rw [ref_check l hk, Option.bind_some]
  obtain ⟨k, rfl⟩ := pred (show 0 < k by omega)
  have hj : ∀ b, stopgateref04_Right.j0 (k + 1) b l u = if b = true then some false else some (!bads u u.length 0) := by
    intro b
    simp only [stopgateref04_Right.j0]
    have := rright_l0 l u (by omega) u.length 0 k (by omega) (by omega)
    rw [show stopgateref04_Right.l0 k 0 l u = _ from this]
  rw [hj, hj]
  by_cases h1 : (chk l).1 = 0
  · rw [if_pos h1]
    by_cases h2 : (u.length : Int) = l.length
    · simp [h1, h2]
    · simp [h1, h2]
  · rw [if_neg h1]; simp [h1]
theorem told_f : stopgatelaw04_told.f 40 = some true := by decide +kernel
theorem told_k {k : Nat} (hk : 40 ≤ k) : stopgatelaw04_told.f k = some true := at_rounds (g := fun k => stopgatelaw04_told.f k) (fun k => stopgatelaw04_told.mono k) hk told_f
theorem lto_f (l : List S68) (u : List Int) (hl : l.length ≤ 1000) (hu : u.length ≤ 1000) {k : Nat} (hk : l.length < k) : stopgatelaw04_To.f k l u = some (l.map cv, u) := by
  unfold stopgatelaw04_To.f
  rw [to_f l hl hk]
  simp only [Option.bind_some, List.length_nil]
  rw [if_pos (by omega)]; rfl
theorem CreditRights : stopgatelaw04_CreditRights.Pure := by
  intro l u _ _
  refine ⟨500, ?_⟩
  unfold stopgatelaw04_CreditRights.f
  have hj : ∀ b, (b = false → l.length ≤ 40 ∧ u.length ≤ 40) → stopgatelaw04_CreditRights.j0 500 b l u = some true := by
    intro b hb
    simp only [stopgatelaw04_CreditRights.j0]
    rw [told_k (show 40 ≤ 499 by omega), Option.bind_some]
    cases b with
    | true => rfl
    | false =>
      obtain ⟨h1, h2⟩ := hb rfl
      rw [if_neg (by simp), Option.bind_some, if_pos rfl, lto_f l u (by omega) (by omega) (by omega), Option.bind_some]
      show (credit_Right.f 499 (l.map cv) u).bind _ = _
      rw [right_f l u h2 (by omega), Option.bind_some, rright_f l u h2 (by omega), Option.bind_some]
      simp
  by_cases h : (l.length : Int) > 40
  · rw [if_pos h]; exact hj true (fun h => by cases h)
  · rw [if_neg h]
    exact hj _ (fun h2 => by
      have := of_decide_eq_false h2
      omega)
end Go.Proofs.Ytnodcekkbbmfnaa.Pure
