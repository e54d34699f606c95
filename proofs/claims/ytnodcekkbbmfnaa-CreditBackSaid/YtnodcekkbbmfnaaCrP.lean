/- The credit, over the printed functions alone. No condition. -/
import Derived.Test.YtnodcekkbbmfnaaQCrBx
namespace Go.Proofs.Ytnodcekkbbmfnaa.Pure
open Go.RowKit Go.Proofs.Ytnodcekkbbmfnaa.QCrB Go.Proofs.YtnodcekkbbmfnaaW.PrintWords Go.Proofs.YtnodcekkbbmfnaaW.PrintLast Go.Proofs.YtnodcekkbbmfnaaW.PrintMore
set_option linter.unusedVariables false
set_option linter.unusedSimpArgs false
theorem w64 {n : Nat} (h : n < 4611686018427387904) : wrap64 ((n : Int) + 1) = ((n + 1 : Nat) : Int) := by unfold wrap64; omega
theorem w64_in {x : Int} (h0 : -9223372036854775808 ≤ x) (h1 : x ≤ 9223372036854775807) : wrap64 x = x := by unfold wrap64; omega
theorem u64_wrap_in {x : Int} (h0 : 0 ≤ x) (h1 : x ≤ 18446744073709551615) : IntKind.u64.wrap x = x := by rw [show IntKind.u64.wrap x = x % 18446744073709551616 from rfl]; omega
theorem i64_range {n : Int} (h : (Lit.int .i64 n).wf = true) : -9223372036854775808 ≤ n ∧ n ≤ 9223372036854775807 := by
  have h' : (decide (IntKind.i64.min ≤ n) && decide (n ≤ IntKind.i64.max)) = true := h
  have e1 : IntKind.i64.min = -9223372036854775808 := by decide
  have e2 : IntKind.i64.max = 9223372036854775807 := by decide
  rw [e1, e2] at h'
  simp only [Bool.and_eq_true, decide_eq_true_eq] at h'
  exact h'
theorem pred {k d : Nat} (h : d < k) : ∃ m, k = m + 1 := ⟨k - 1, by omega⟩
theorem rd_nat (l : List Int) (n : Nat) (h : n < l.length) : rd l (n : Int) = l[n] := by simp [rd, h]
theorem rd_mem (l : List Int) (n : Nat) (h : n < l.length) : rd l (n : Int) ∈ l := by rw [rd_nat l n h]; exact List.getElem_mem h
def cv (x : S68) : S43 := ⟨x.f0, x.f1⟩
theorem rd_cv (l : List S68) (i : Int) : rd_T43 (l.map cv) i = cv (rd_T68 l i) := by
  unfold rd_T43 rd_T68
  simp only [List.getD_eq_getElem?_getD, List.getElem?_map]
  cases l[i.toNat]? <;> rfl
theorem rd68_nat (l : List S68) (n : Nat) (h : n < l.length) : rd_T68 l (n : Int) = l[n] := by simp [rd_T68, h]
theorem to_l0 (l : List S68) (hl : l.length ≤ 1000) : ∀ d (n k : Nat), n + d = l.length → d < k → stopgatelaw03_To.l0 k l ((l.take n).map cv) (n : Int) = some (l.map cv) := by
  intro d
  induction d with
  | zero =>
    intro n k hn hk
    obtain ⟨k, rfl⟩ := pred hk
    unfold stopgatelaw03_To.l0
    rw [if_neg (by omega), List.take_of_length_le (by omega)]
  | succ d ih =>
    intro n k hn hk
    obtain ⟨k, rfl⟩ := pred hk
    unfold stopgatelaw03_To.l0
    have e : (l.take n).map cv ++ [(⟨(rd_T68 l n).f0, (rd_T68 l n).f1⟩ : S43)] = (l.take (n + 1)).map cv := by
      rw [rd68_nat l n (by omega), List.take_succ_eq_append_getElem (by omega), List.map_append]; rfl
    rw [if_pos (by omega), if_pos (by omega), if_pos (by rw [List.length_map, List.length_take]; omega), w64 (by omega), e]
    exact ih (n + 1) k (by omega) (by omega)
theorem to_f (l : List S68) (hl : l.length ≤ 1000) {k : Nat} (hk : l.length < k) : stopgatelaw03_To.f k l = some (l.map cv) := to_l0 l hl l.length 0 k (by omega) hk

def par (l : List S68) (i : Int) : Int := (rd_T68 l i).f0
def ends (l : List S68) : Nat → Int → Bool
  | 0, _ => false
  | k + 1, n => if par l n = -1 then true else ends l k (par l n)
def wrg (x : S68) (m : Int) : Int := if x.f0 ≠ -1 ∧ (x.f0 < 0 ∨ x.f0 ≥ m) then 18 else if x.f1 < 0 ∨ x.f1 > 4611686018427387904 then 1 else 0
def firstw (l : List S68) : Nat → Nat → Option (Int × Int)
  | 0, _ => none
  | d + 1, n => if wrg (rd_T68 l n) l.length = 0 then firstw l d (n + 1) else some (wrg (rd_T68 l n) l.length, (n : Int))
def longs (l : List S68) : Nat → Nat → Int × Int
  | 0, _ => (0, -1)
  | d + 1, n => if ends l 3 n = true then longs l d (n + 1) else (16, (n : Int))
def chk (l : List S68) : Int × Int := if (l.length : Int) > 32 then (11, 0) else if (l.length : Int) = 0 then (1, 0) else (firstw l l.length 0).getD (longs l l.length 0)

/-- A node by itself is right. -/
def okn (l : List S68) (n : Nat) : Prop := (par l n = -1 ∨ 0 ≤ par l n ∧ par l n < l.length) ∧ 0 ≤ (rd_T68 l n).f1 ∧ (rd_T68 l n).f1 ≤ 4611686018427387904
theorem wrg_ok {l : List S68} {n : Nat} (h : wrg (rd_T68 l n) l.length = 0) : okn l n := by
  unfold wrg at h
  unfold okn par
  split at h
  · cases h
  · split at h
    · cases h
    · omega
theorem wrong_f (x : S68) (m : Int) {k : Nat} (hk : 0 < k) : tree_Node_wrong.f k x.f0 x.f1 m = some (wrg x m) := by
  obtain ⟨k, rfl⟩ := pred hk
  unfold tree_Node_wrong.f wrg
  by_cases h1 : x.f0 = -1
  · rw [if_pos h1, if_neg (show ¬ (x.f0 ≠ -1 ∧ (x.f0 < 0 ∨ x.f0 ≥ m)) by omega)]
    simp only [tree_Node_wrong.j0]
    by_cases h2 : x.f1 < 0
    · simp [h2]
    · by_cases h3 : x.f1 > 4611686018427387904
      · simp [h2, h3]
      · simp [h2, h3]
  · rw [if_neg h1]
    by_cases h0 : x.f0 < 0
    · rw [if_pos h0, if_pos (by omega)]; simp [tree_Node_wrong.j0]
    · rw [if_neg h0]
      by_cases h4 : x.f0 ≥ m
      · rw [if_pos (by omega)]; simp [tree_Node_wrong.j0, h4]
      · rw [if_neg (by omega)]
        simp only [tree_Node_wrong.j0, h4]
        by_cases h2 : x.f1 < 0
        · simp [h2]
        · by_cases h3 : x.f1 > 4611686018427387904
          · simp [h2, h3]
          · simp [h2, h3]
theorem tree_l2 (l : List S68) (hok : ∀ n, n < l.length → okn l n) (i i' : Int) : ∀ d (j : Nat) (at_ : Int) (k : Nat), j + d = 3 → 0 ≤ at_ → at_ < l.length → d < k →
    (ends l d at_ = true → ∃ k', k ≤ k' + d + 1 ∧ tree_Check.l2 k (l.map cv) i at_ l.length i' (j : Int) = tree_Check.l1 k' (l.map cv) l.length (wrap64 (i' + 1))) ∧
    (ends l d at_ = false → tree_Check.l2 k (l.map cv) i at_ l.length i' (j : Int) = some (16, i)) := by
  intro d
  induction d with
  | zero =>
    intro j at_ k hj h0 h1 hk
    obtain ⟨k, rfl⟩ := pred hk
    refine ⟨fun h => by simp [ends] at h, fun _ => ?_⟩
    unfold tree_Check.l2
    rw [if_neg (by omega)]
  | succ d ih =>
    intro j at_ k hj h0 h1 hk
    obtain ⟨k, rfl⟩ := pred hk
    have ho := hok at_.toNat (by omega)
    have ea : ((at_.toNat : Nat) : Int) = at_ := by omega
    have hp : (rd_T43 (l.map cv) at_).f0 = par l at_ := by rw [rd_cv]; rfl
    have hu : tree_Check.l2 (k + 1) (l.map cv) i at_ l.length i' (j : Int) = (if par l at_ = -1 then tree_Check.l1 k (l.map cv) l.length (wrap64 (i' + 1)) else tree_Check.l2 k (l.map cv) i (par l at_) l.length i' ((j + 1 : Nat) : Int)) := by
      conv => lhs; unfold tree_Check.l2
      rw [if_pos (by omega), if_pos h0, if_pos (by rw [List.length_map]; exact h1), hp, w64 (by omega)]
    rw [hu]
    by_cases hm : par l at_ = -1
    · rw [if_pos hm]
      refine ⟨fun _ => ⟨k, by omega, rfl⟩, fun h => ?_⟩
      rw [ends, if_pos hm] at h; cases h
    · rw [if_neg hm]
      unfold okn at ho
      rw [ea] at ho
      have hq : 0 ≤ par l at_ ∧ par l at_ < l.length := by omega
      obtain ⟨ih1, ih2⟩ := ih (j + 1) (par l at_) k (by omega) hq.1 hq.2 (by omega)
      have he : ends l (d + 1) at_ = ends l d (par l at_) := by rw [ends, if_neg hm]
      rw [he]
      refine ⟨fun h => ?_, ih2⟩
      obtain ⟨k', h1, h2⟩ := ih1 h
      exact ⟨k', by omega, h2⟩
theorem tree_l1 (l : List S68) (hl : l.length ≤ 1000) (hok : ∀ n, n < l.length → okn l n) : ∀ d (n k : Nat), n + d = l.length → 6 * d < k → tree_Check.l1 k (l.map cv) l.length (n : Int) = some (longs l d n) := by
  intro d
  induction d with
  | zero =>
    intro n k hn hk
    obtain ⟨k, rfl⟩ := pred hk
    unfold tree_Check.l1
    rw [if_neg (by omega)]; rfl
  | succ d ih =>
    intro n k hn hk
    obtain ⟨k, rfl⟩ := pred hk
    unfold tree_Check.l1
    rw [if_pos (by omega)]
    obtain ⟨h1, h2⟩ := tree_l2 l hok (n : Int) (n : Int) 3 0 (n : Int) k (by omega) (by omega) (by omega) (by omega)
    cases he : ends l 3 n with
    | true =>
      obtain ⟨k', hk', e⟩ := h1 he
      have e' : tree_Check.l2 k (l.map cv) n n l.length n 0 = _ := e
      rw [e', w64 (by omega), ih (n + 1) k' (by omega) (by omega)]
      rw [longs, if_pos he]
    | false =>
      have e' : tree_Check.l2 k (l.map cv) n n l.length n 0 = _ := h2 he
      rw [e', longs, if_neg (by rw [he]; simp)]
theorem tree_l0 (l : List S68) (hl : l.length ≤ 1000) : ∀ d (n k : Nat), n + d = l.length → (∀ j, j < n → okn l j) → 6 * l.length + d + 2 < k → tree_Check.l0 k (l.map cv) (l.map cv) l.length (n : Int) = some ((firstw l d n).getD (longs l l.length 0)) := by
  intro d
  induction d with
  | zero =>
    intro n k hn hok hk
    obtain ⟨k, rfl⟩ := pred hk
    unfold tree_Check.l0
    rw [if_neg (by omega), List.length_map]
    exact tree_l1 l hl (fun j hj => hok j (by omega)) l.length 0 k (by omega) (by omega)
  | succ d ih =>
    intro n k hn hok hk
    obtain ⟨k, rfl⟩ := pred hk
    unfold tree_Check.l0
    rw [if_pos (by omega), if_pos (by omega), if_pos (by rw [List.length_map]; omega), rd_cv, List.length_map]
    show (tree_Node_wrong.f k (rd_T68 l n).f0 (rd_T68 l n).f1 l.length).bind _ = _
    rw [wrong_f _ _ (by omega), Option.bind_some]
    unfold firstw
    by_cases hw : wrg (rd_T68 l n) l.length = 0
    · rw [if_pos hw, if_pos hw, w64 (by omega)]
      exact ih (n + 1) k (by omega) (fun j hj => by
        rcases Nat.lt_or_ge j n with h | h
        · exact hok j h
        · obtain rfl : j = n := by omega
          exact wrg_ok hw) (by omega)
    · rw [if_neg hw, if_neg hw]; rfl
theorem tree_check (l : List S68) {k : Nat} (hk : 300 ≤ k) : tree_Check.f k (l.map cv) = some (chk l) := by
  unfold tree_Check.f chk
  rw [List.length_map]
  by_cases h1 : (l.length : Int) > 32
  · rw [if_pos h1, if_pos h1]
  · rw [if_neg h1, if_neg h1]
    by_cases h2 : (l.length : Int) = 0
    · rw [if_pos h2, if_pos h2]
    · rw [if_neg h2, if_neg h2]
      exact tree_l0 l (by omega) l.length 0 k (by omega) (fun j hj => absurd hj (Nat.not_lt_zero _)) (by omega)
/-- The path from a node up, of as many as may be; was that all? -/
def clm (l : List S68) : Nat → Int → List Int × Bool
  | 0, n => ([], !(decide (0 ≤ n) && decide (n < l.length)))
  | k + 1, n => if 0 ≤ n ∧ n < l.length then (n :: (clm l k (par l n)).1, (clm l k (par l n)).2) else ([], true)
theorem clm_out {l : List S68} {k : Nat} {n : Int} (h : ¬ (0 ≤ n ∧ n < l.length)) : clm l k n = ([], true) := by
  cases k with
  | zero =>
    unfold clm
    by_cases h0 : 0 ≤ n
    · have : ¬ n < l.length := fun h' => h ⟨h0, h'⟩
      simp [h0, this]
    · simp [h0]
  | succ k => unfold clm; rw [if_neg h]
theorem climb_l0 (l : List S68) : ∀ d (n : Int) (out : List Int) (k : Nat), out.length + d = 3 → 2 * d + 2 < k → stopgateref03_climb.l0 k l n out = some (out ++ (clm l d n).1, (clm l d n).2) := by
  intro d
  induction d with
  | zero =>
    intro n out k ho hk
    obtain ⟨k, rfl⟩ := pred hk
    obtain ⟨k, rfl⟩ := pred (show 0 < k by omega)
    unfold stopgateref03_climb.l0
    by_cases h : 0 ≤ n ∧ n < l.length
    · rw [if_pos h.1]
      unfold stopgateref03_climb.j1
      rw [if_pos (by simpa using h.2), if_pos (by omega)]
      simp [clm, h.1, h.2]
    · rw [clm_out h]
      by_cases h0 : n ≥ 0
      · rw [if_pos h0]
        have : ¬ n < l.length := fun h' => h ⟨h0, h'⟩
        simp [stopgateref03_climb.j1, this]
      · rw [if_neg h0]; simp [stopgateref03_climb.j1]
  | succ d ih =>
    intro n out k ho hk
    obtain ⟨k, rfl⟩ := pred hk
    obtain ⟨k, rfl⟩ := pred (show 0 < k by omega)
    unfold stopgateref03_climb.l0
    by_cases h : 0 ≤ n ∧ n < l.length
    · rw [if_pos h.1]
      unfold stopgateref03_climb.j1
      rw [if_pos (by simpa using h.2), if_neg (by omega), if_pos (by omega), if_pos h.1, if_pos h.2, ih _ _ k (by simp; omega) (by omega)]
      rw [clm, if_pos h]
      simp [par]
    · rw [clm_out h]
      by_cases h0 : n ≥ 0
      · rw [if_pos h0]
        have : ¬ n < l.length := fun h' => h ⟨h0, h'⟩
        simp [stopgateref03_climb.j1, this]
      · rw [if_neg h0]; simp [stopgateref03_climb.j1]
theorem climb_f (l : List S68) (n : Int) {k : Nat} (hk : 10 ≤ k) : stopgateref03_climb.f k l n = some (clm l 3 n) := by
  have := climb_l0 l 3 n [] k rfl (by omega)
  rw [List.nil_append] at this
  exact this
theorem clm_ends (l : List S68) (hok : ∀ n, n < l.length → okn l n) : ∀ d (n : Int), 0 ≤ n → n < l.length → (clm l d n).2 = ends l d n := by
  intro d
  induction d with
  | zero => intro n h0 h1; simp [clm, ends, h0, h1]
  | succ d ih =>
    intro n h0 h1
    have ho := hok n.toNat (by omega)
    have ea : ((n.toNat : Nat) : Int) = n := by omega
    unfold okn at ho
    rw [ea] at ho
    unfold clm ends
    rw [if_pos ⟨h0, h1⟩]
    by_cases hm : par l n = -1
    · rw [if_pos hm]
      show (clm l d (par l n)).2 = true
      rw [clm_out (by omega)]
    · rw [if_neg hm]
      exact ih _ (by omega) (by omega)
theorem tpath_l0 (l : List S68) : ∀ d (n : Int) (out : List Int) (k : Nat), out.length + d = 3 → d < k → tree_Path.l0 k (l.map cv) n out = some (out ++ (clm l d n).1) := by
  intro d
  induction d with
  | zero =>
    intro n out k ho hk
    obtain ⟨k, rfl⟩ := pred hk
    unfold tree_Path.l0
    rw [List.length_map, clm, List.append_nil]
    by_cases h0 : n ≥ 0
    · rw [if_pos h0]
      by_cases h1 : n < (l.length : Int)
      · rw [if_pos h1, if_neg (by omega)]
      · rw [if_neg h1]
    · rw [if_neg h0]
  | succ d ih =>
    intro n out k ho hk
    obtain ⟨k, rfl⟩ := pred hk
    unfold tree_Path.l0
    rw [List.length_map]
    by_cases h : 0 ≤ n ∧ n < l.length
    · rw [if_pos h.1, if_pos h.2, if_pos (by omega), if_pos (by omega), if_pos h.1, rd_cv, clm, if_pos h]
      show tree_Path.l0 k (l.map cv) (par l n) (out ++ [n]) = _
      rw [ih _ _ k (by simp; omega) (by omega)]
      simp
    · rw [clm_out h, List.append_nil]
      by_cases h0 : n ≥ 0
      · rw [if_pos h0, if_neg (fun h' => h ⟨h0, h'⟩)]
      · rw [if_neg h0]
theorem tpath_f (l : List S68) (n : Int) {k : Nat} (hk : 10 ≤ k) : tree_Path.f k (l.map cv) n = some (clm l 3 n).1 := by
  have := tpath_l0 l 3 n [] k rfl (by omega)
  rw [List.nil_append] at this
  exact this
theorem rpath_f (l : List S68) (n : Int) {k : Nat} (hk : 10 ≤ k) : stopgateref03_Path.f k l n = some (clm l 3 n).1 := by
  unfold stopgateref03_Path.f
  rw [climb_f l n hk, Option.bind_some]
theorem clm_len (l : List S68) : ∀ d (n : Int), (clm l d n).1.length ≤ d := by
  intro d
  induction d with
  | zero => intro n; simp [clm]
  | succ d ih =>
    intro n
    rw [clm]
    split
    · have := ih (par l n); simp; omega
    · simp
theorem clm_mem (l : List S68) : ∀ d (n : Int), ∀ x ∈ (clm l d n).1, 0 ≤ x ∧ x < l.length := by
  intro d
  induction d with
  | zero => intro n x hx; simp [clm] at hx
  | succ d ih =>
    intro n x hx
    rw [clm] at hx
    split at hx
    · rename_i h
      rcases List.mem_cons.1 hx with rfl | hx
      · exact h
      · exact ih _ x hx
    · simp at hx
theorem clm_ne (l : List S68) (d : Nat) (n : Int) (h : 0 ≤ n ∧ n < l.length) : (clm l (d + 1) n).1 ≠ [] := by
  rw [clm, if_pos h]; simp
/-- A tree that may be, each node hanging on an elder one. -/
structure Val (t : List S68) : Prop where
  up : ∀ n : Nat, n < t.length → par t n = -1 ∨ 0 ≤ par t n ∧ par t n < n
  caps : ∀ n : Nat, n < t.length → 0 ≤ (rd_T68 t n).f1 ∧ (rd_T68 t n).f1 ≤ 4611686018427387904
  fin : ∀ n : Nat, n < t.length → ends t 3 n = true
theorem Val.okn {t : List S68} (h : Val t) (n : Nat) (hn : n < t.length) : okn t n := by
  have := h.up n hn
  exact ⟨by omega, h.caps n hn⟩
theorem rd_app (t : List S68) (x : S68) (n : Nat) (h : n < t.length) : rd_T68 (t ++ [x]) n = rd_T68 t n := by
  simp [rd_T68, List.getElem?_append_left h, List.getD_eq_getElem?_getD]
theorem rd_last (t : List S68) (x : S68) : rd_T68 (t ++ [x]) (t.length : Int) = x := by simp [rd_T68]
theorem ends_app (t : List S68) (x : S68) (hu : ∀ n : Nat, n < t.length → par t n = -1 ∨ 0 ≤ par t n ∧ par t n < n) : ∀ d (n : Nat), n < t.length → ends (t ++ [x]) d n = ends t d n := by
  intro d
  induction d with
  | zero => intro n hn; rfl
  | succ d ih =>
    intro n hn
    have hp : par (t ++ [x]) n = par t n := by unfold par; rw [rd_app t x n hn]
    rw [ends, ends, hp]
    rcases hu n hn with h | h
    · rw [if_pos h, if_pos h]
    · rw [if_neg (by omega), if_neg (by omega)]
      have e : par t n = ((par t n).toNat : Int) := by omega
      rw [e]
      exact ih _ (by omega)
theorem Val.add {t : List S68} (h : Val t) (x : S68) (hp : x.f0 = -1 ∨ 0 ≤ x.f0 ∧ x.f0 < t.length ∧ ends t 2 x.f0 = true) (hc : 0 ≤ x.f1 ∧ x.f1 ≤ 4611686018427387904) : Val (t ++ [x]) := by
  refine ⟨fun n hn => ?_, fun n hn => ?_, fun n hn => ?_⟩
  all_goals
    rw [List.length_append, List.length_singleton] at hn
    rcases Nat.lt_or_ge n t.length with hlt | hge
  · unfold par; rw [rd_app t x n hlt]; exact h.up n hlt
  · obtain rfl : n = t.length := by omega
    unfold par; rw [rd_last]; omega
  · rw [rd_app t x n hlt]; exact h.caps n hlt
  · obtain rfl : n = t.length := by omega
    rw [rd_last]; exact hc
  · rw [ends_app t x h.up 3 n hlt]; exact h.fin n hlt
  · obtain rfl : n = t.length := by omega
    rw [ends]
    have e : par (t ++ [x]) t.length = x.f0 := by unfold par; rw [rd_last]
    rw [e]
    rcases hp with hp | hp
    · rw [if_pos hp]
    · rw [if_neg (by omega)]
      have e2 : x.f0 = ((x.f0).toNat : Int) := by omega
      have h3 := hp.2.2
      rw [e2] at h3 ⊢
      rw [ends_app t x h.up 2 _ (by omega)]
      exact h3
theorem short_ends {t : List S68} (h : Val t) (p : Int) (h0 : 0 ≤ p) (h1 : p < t.length) (hl : (clm t 3 p).1.length < 3) : ends t 2 p = true := by
  have e : p = ((p.toNat : Nat) : Int) := by omega
  have hu := h.up p.toNat (by omega)
  rw [← e] at hu
  rw [ends]
  by_cases hm : par t p = -1
  · rw [if_pos hm]
  · rw [if_neg hm, ends]
    have hq : 0 ≤ par t p ∧ par t p < t.length := by omega
    have e' : par t p = (((par t p).toNat : Nat) : Int) := by omega
    have hu' := h.up (par t p).toNat (by omega)
    rw [← e'] at hu'
    by_cases hm' : par t (par t p) = -1
    · rw [if_pos hm']
    · exfalso
      rw [clm, if_pos ⟨h0, h1⟩, clm, if_pos hq, clm, if_pos (by omega)] at hl
      simp only [List.length_cons] at hl
      omega
theorem capw (c : Int) : 0 ≤ wrap64 (Int.tmod (IntKind.u64.wrap c) 4611686018427387905) ∧ wrap64 (Int.tmod (IntKind.u64.wrap c) 4611686018427387905) ≤ 4611686018427387904 := by
  have e : IntKind.u64.wrap c = c % 18446744073709551616 := rfl
  rw [e, Int.tmod_eq_emod_of_nonneg (by omega)]
  unfold wrap64
  omega
theorem fix_l0 (l : List S68) : ∀ d (i : Nat) (t : List S68) (k : Nat), i + d = min l.length 10 → t.length = i → Val t → 4 * d + 20 < k → ∃ r, stopgateref03_Fix.l0 k l t (i : Int) = some r ∧ Val r ∧ 0 < r.length ∧ r.length ≤ 10 := by
  intro d
  induction d with
  | zero =>
    intro i t k hi ht hv hk
    obtain ⟨k, rfl⟩ := pred hk
    obtain ⟨k, rfl⟩ := pred (show 0 < k by omega)
    have hj : stopgateref03_Fix.j1 (k + 1) l t i false = if (t.length : Int) = 0 then some [(⟨-1, 1000⟩ : S68)] else some t := by simp [stopgateref03_Fix.j1]
    have hu : stopgateref03_Fix.l0 (k + 1 + 1) l t i = stopgateref03_Fix.j1 (k + 1) l t i false := by
      conv => lhs; unfold stopgateref03_Fix.l0
      by_cases h : (i : Int) < l.length
      · rw [if_pos h, show decide ((i : Int) < 10) = false from decide_eq_false (by omega)]
      · rw [if_neg h]
    rw [hu, hj]
    by_cases h0 : (t.length : Int) = 0
    · rw [if_pos h0]
      refine ⟨_, rfl, ?_, by simp, by simp⟩
      have hv0 : Val [] := ⟨fun n hn => absurd hn (by simp), fun n hn => absurd hn (by simp), fun n hn => absurd hn (by simp)⟩
      exact hv0.add ⟨-1, 1000⟩ (.inl rfl) (by constructor <;> decide)
    · rw [if_neg h0]
      exact ⟨t, rfl, hv, by omega, by omega⟩
  | succ d ih =>
    intro i t k hi ht hv hk
    obtain ⟨k, rfl⟩ := pred hk
    obtain ⟨k, rfl⟩ := pred (show 0 < k by omega)
    obtain ⟨k, rfl⟩ := pred (show 0 < k by omega)
    have hc := capw (rd_T68 l i).f1
    have hstep : ∀ x : S68, Val (t ++ [x]) → ∃ r, (if t.length < 8796093022208 then stopgateref03_Fix.l0 k l (t ++ [x]) (wrap64 ((i : Int) + 1)) else none) = some r ∧ Val r ∧ 0 < r.length ∧ r.length ≤ 10 := by
      intro x hx
      rw [if_pos (by omega), w64 (by omega)]
      exact ih (i + 1) (t ++ [x]) k (by omega) (by simp [ht]) hx (by omega)
    unfold stopgateref03_Fix.l0
    rw [if_pos (by omega), show decide ((i : Int) < 10) = true from decide_eq_true (by omega)]
    unfold stopgateref03_Fix.j1
    rw [if_pos rfl, if_pos (by omega), if_pos (by omega)]
    have hj2 : ∀ b, (b = true → 0 < (i : Int) ∧ 0 ≤ (rd_T68 l i).f0) → ∃ r, stopgateref03_Fix.j2 (k + 1) l t i b (-1) (wrap64 (Int.tmod (IntKind.u64.wrap (rd_T68 l i).f1) 4611686018427387905)) = some r ∧ Val r ∧ 0 < r.length ∧ r.length ≤ 10 := by
      intro b hb
      unfold stopgateref03_Fix.j2
      cases b with
      | false => rw [if_neg (by simp)]; exact hstep _ (hv.add _ (.inl rfl) hc)
      | true =>
        obtain ⟨h1, h2⟩ := hb rfl
        have hq0 : 0 ≤ Int.tmod (rd_T68 l i).f0 i := by rw [Int.tmod_eq_emod_of_nonneg h2]; exact Int.emod_nonneg _ (by omega)
        have hq1 : Int.tmod (rd_T68 l i).f0 i < i := by rw [Int.tmod_eq_emod_of_nonneg h2]; exact Int.emod_lt_of_pos _ h1
        rw [if_pos rfl, if_pos (by omega), if_pos (by omega), if_neg (by omega), rpath_f t _ (by omega), Option.bind_some]
        by_cases h3 : ((clm t 3 (Int.tmod (rd_T68 l i).f0 i)).1.length : Int) ≥ 3
        · rw [if_pos h3]; exact hstep _ (hv.add _ (.inl rfl) hc)
        · rw [if_neg h3]
          exact hstep _ (hv.add ⟨Int.tmod (rd_T68 l i).f0 i, _⟩ (.inr ⟨hq0, by show Int.tmod (rd_T68 l i).f0 i < _; omega, short_ends hv (Int.tmod (rd_T68 l i).f0 i) hq0 (by omega) (by omega)⟩) hc)
    by_cases h0 : (i : Int) > 0
    · rw [if_pos h0]
      exact hj2 _ (fun h => ⟨h0, of_decide_eq_true h⟩)
    · rw [if_neg h0]
      exact hj2 false (fun h => by cases h)
theorem fix_f (l : List S68) {k : Nat} (hk : 100 ≤ k) : ∃ t, stopgateref03_Fix.f k l = some t ∧ Val t ∧ 0 < t.length ∧ t.length ≤ 10 := by
  have hv0 : Val [] := ⟨fun n hn => absurd hn (by simp), fun n hn => absurd hn (by simp), fun n hn => absurd hn (by simp)⟩
  exact fix_l0 l (min l.length 10) 0 [] k (by omega) rfl hv0 (by omega)
def cap (l : List S68) (n : Int) : Int := (rd_T68 l n).f1
/-- What is reserved: as many numbers as nodes, each within its cap. -/
structure Inv (l : List S68) (u : List Int) : Prop where
  len : u.length = l.length
  ok : ∀ n : Nat, n < l.length → 0 ≤ rd u n ∧ rd u n ≤ 4611686018427387904
theorem Inv.at {l : List S68} {u : List Int} (h : Inv l u) (n : Int) (h0 : 0 ≤ n) (h1 : n < l.length) : 0 ≤ rd u n ∧ rd u n ≤ 4611686018427387904 := by
  have e : n = ((n.toNat : Nat) : Int) := by omega
  rw [e]; exact h.ok _ (by omega)
theorem Val.at {t : List S68} (h : Val t) (n : Int) (h0 : 0 ≤ n) (h1 : n < t.length) : 0 ≤ cap t n ∧ cap t n ≤ 4611686018427387904 := by
  have e : n = ((n.toNat : Nat) : Int) := by omega
  rw [e]; exact h.caps _ (by omega)
theorem rd_set (u : List Int) (n : Int) (h0 : 0 ≤ n) (h1 : n < u.length) (v : Int) (m : Nat) : rd (u.set n.toNat v) m = if (m : Int) = n then v else rd u m := by
  unfold rd
  simp only [List.getD_eq_getElem?_getD, List.getElem?_set, Int.toNat_natCast]
  by_cases h : n.toNat = m
  · rw [if_pos h, if_pos (by omega), if_pos (by omega)]; rfl
  · rw [if_neg h, if_neg (by omega)]
theorem Inv.set {l : List S68} {u : List Int} (h : Inv l u) (n : Int) (h0 : 0 ≤ n) (h1 : n < l.length) (v : Int) (hv : 0 ≤ v ∧ v ≤ 4611686018427387904) : Inv l (u.set n.toNat v) := by
  refine ⟨by rw [List.length_set]; exact h.len, fun m hm => ?_⟩
  rw [rd_set u n h0 (by rw [h.len]; exact h1)]
  split
  · exact hv
  · exact h.ok m hm
theorem add_f (a b : Int) (ha : 0 ≤ a ∧ a ≤ 4611686018427387904) (hb : 0 ≤ b ∧ b ≤ 9223372036854775807) : fixed_Add.f a b = if a + b ≤ 9223372036854775807 then some (a + b, true) else some (0, false) := by
  unfold fixed_Add.f
  by_cases h : a + b ≤ 9223372036854775807
  · rw [if_pos h, w64_in (by omega) h]
    by_cases h0 : b = 0
    · subst h0; simp
    · have h1 : a < a + b := by omega
      have h2 : 0 < b := by omega
      simp [h0, h1, h2]
  · rw [if_neg h]
    have e : wrap64 (a + b) = a + b - 18446744073709551616 := by unfold wrap64; omega
    rw [e]
    have h1 : ¬ (a < a + b - 18446744073709551616) := by omega
    have h2 : 0 < b := by omega
    have h3 : ¬ b = 0 := by omega
    simp [h1, h2, h3]
/-- Reserve along a path: the numbers, the code, where. -/
def resv (l : List S68) (u : List Int) (amt : Int) : List Int → Nat → List Int → List Int × Int × Int
  | [], _, w => (w, 0, -1)
  | n :: p, i, w => if rd u n + amt ≤ cap l n then resv l u amt p (i + 1) (w.set n.toNat (rd u n + amt)) else (u, 12 + (i : Int), n)
theorem res_l0 (l : List S68) (hl : l.length ≤ 1000) (hcap : ∀ n, 0 ≤ n → n < (l.length : Int) → 0 ≤ cap l n ∧ cap l n ≤ 4611686018427387904) (u : List Int) (hu : Inv l u) (amt : Int) (ha : 0 ≤ amt ∧ amt ≤ 9223372036854775807) (p : List Int) (hp : ∀ x ∈ p, 0 ≤ x ∧ x < l.length) (hpl : p.length ≤ 3) :
    ∀ d (i : Nat) (w : List Int) (k : Nat), i + d = p.length → w.length = l.length → d < k → credit_Reserve.l0 k amt p p.length (i : Int) (l.map cv) u (l.map cv) w = some (l.map cv, resv l u amt (p.drop i) i w) := by
  intro d
  induction d with
  | zero =>
    intro i w k hi hw hk
    obtain ⟨k, rfl⟩ := pred hk
    unfold credit_Reserve.l0
    rw [if_neg (by omega), List.drop_eq_nil_of_le (by omega)]; rfl
  | succ d ih =>
    intro i w k hi hw hk
    obtain ⟨k, rfl⟩ := pred hk
    have hm := hp (rd p i) (rd_mem p i (by omega))
    have hn : ((rd p i).toNat : Int) = rd p i := by omega
    have hb := hu.at (rd p i) hm.1 hm.2
    have hc := hcap (rd p i) hm.1 hm.2
    have hd : p.drop i = rd p i :: p.drop (i + 1) := by rw [rd_nat p i (by omega)]; exact List.drop_eq_getElem_cons (by omega)
    unfold credit_Reserve.l0
    rw [if_pos (by omega), if_pos (by omega), if_pos (by omega), if_pos hm.1, if_pos (by rw [hu.len]; exact hm.2), add_f _ _ hb ha, hd, resv]
    by_cases h : rd u (rd p i) + amt ≤ 9223372036854775807
    · rw [if_pos h, Option.bind_some, if_pos rfl, List.length_map, if_pos hm.2, rd_cv]
      show (if rd u (rd p i) + amt > cap l (rd p i) then _ else _) = _
      by_cases h2 : rd u (rd p i) + amt ≤ cap l (rd p i)
      · rw [if_neg (by omega), if_pos h2, if_pos (by rw [hw]; exact hm.2), w64 (by omega)]
        exact ih (i + 1) _ k (by omega) (by rw [List.length_set]; exact hw) (by omega)
      · rw [if_pos (by omega), if_neg h2, w64_in (by omega) (by omega)]
    · rw [if_neg h, Option.bind_some, if_neg (by simp), if_neg (by omega), w64_in (by omega) (by omega)]
theorem copied_f (m : List S43) (u : List Int) (hm : m.length ≤ 1000) (hu : u.length ≤ 1000) : credit_copied.f m u = some (m, u) := by
  unfold credit_copied.f tree_Node.f slices_Clone_int64_int64.f
  simp only [Option.bind_some, List.length_nil, List.nil_append]
  rw [if_pos (by omega), Option.bind_some, if_pos (by omega), Option.bind_some]
def resF (l : List S68) (u : List Int) (leaf amt : Int) : List Int × Int × Int :=
  if (clm l 3 leaf).1 = [] then (u, 18, -1) else if amt < 0 then (u, 1, -1) else resv l u amt (clm l 3 leaf).1 0 u
theorem res_f (l : List S68) (hl : l.length ≤ 1000) (hcap : ∀ n, 0 ≤ n → n < (l.length : Int) → 0 ≤ cap l n ∧ cap l n ≤ 4611686018427387904) (u : List Int) (hu : Inv l u) (leaf amt : Int) (ha : amt ≤ 9223372036854775807) {k : Nat} (hk : 10 ≤ k) :
    credit_Reserve.f k (l.map cv) u leaf amt = some (l.map cv, resF l u leaf amt) := by
  unfold credit_Reserve.f resF
  rw [tpath_f l leaf hk, Option.bind_some]
  by_cases h1 : (clm l 3 leaf).1 = []
  · rw [if_pos (by simp [h1]), if_pos h1]
  · rw [if_neg (by simpa using h1), if_neg h1]
    by_cases h2 : amt < 0
    · rw [if_pos h2, if_pos h2]
    · rw [if_neg h2, if_neg h2, copied_f _ _ (by rw [List.length_map]; omega) (by rw [hu.len]; omega), Option.bind_some]
      have := clm_len l 3 leaf
      exact res_l0 l hl hcap u hu amt ⟨by omega, ha⟩ _ (clm_mem l 3 leaf) (by omega) (clm l 3 leaf).1.length 0 u k (by omega) hu.len (by omega)
theorem resv_inv (l : List S68) (hcap : ∀ n, 0 ≤ n → n < (l.length : Int) → 0 ≤ cap l n ∧ cap l n ≤ 4611686018427387904) (u : List Int) (hu : Inv l u) (amt : Int) (ha : 0 ≤ amt) : ∀ (p : List Int) (i : Nat) (w : List Int), (∀ x ∈ p, 0 ≤ x ∧ x < l.length) → Inv l w → Inv l (resv l u amt p i w).1 := by
  intro p
  induction p with
  | nil => intro i w _ hw; exact hw
  | cons n p ih =>
    intro i w hp hw
    have hm := hp n (by simp)
    rw [resv]
    split
    · rename_i h
      have := hu.at n hm.1 hm.2
      have := hcap n hm.1 hm.2
      exact ih _ _ (fun x hx => hp x (by simp [hx])) (hw.set n hm.1 hm.2 _ ⟨by omega, by omega⟩)
    · exact hu
theorem resF_inv (l : List S68) (hcap : ∀ n, 0 ≤ n → n < (l.length : Int) → 0 ≤ cap l n ∧ cap l n ≤ 4611686018427387904) (u : List Int) (hu : Inv l u) (leaf amt : Int) : Inv l (resF l u leaf amt).1 := by
  unfold resF
  split
  · exact hu
  · split
    · exact hu
    · exact resv_inv l hcap u hu amt (by omega) _ 0 u (clm_mem l 3 leaf) hu
theorem begin_f (l : List S68) (hl : l.length ≤ 1000) : credit_Begin.f (l.map cv) = some (l.map cv, List.replicate l.length 0) := by
  unfold credit_Begin.f tree_Node.f
  simp only [Option.bind_some, List.length_nil, List.nil_append, List.length_map]
  rw [if_pos (by omega), Option.bind_some, if_pos (by omega), if_pos (by omega)]; rfl
theorem inv_zero (l : List S68) : Inv l (List.replicate l.length 0) := by
  refine ⟨by simp, fun n hn => ?_⟩
  have : rd (List.replicate l.length (0 : Int)) n = 0 := by simp [rd, hn]
  rw [this]; constructor <;> decide
theorem from_l0 (l : List S68) (hl : l.length ≤ 1000) (u w : List Int) : ∀ d (n k : Nat), n + d = l.length → d < k → stopgatelaw04_From.l0 k (n : Int) (l.map cv) u (l.take n) w = some (l, w) := by
  intro d
  induction d with
  | zero =>
    intro n k hn hk
    obtain ⟨k, rfl⟩ := pred hk
    unfold stopgatelaw04_From.l0
    rw [if_neg (by rw [List.length_map]; omega), List.take_of_length_le (by omega)]
  | succ d ih =>
    intro n k hn hk
    obtain ⟨k, rfl⟩ := pred hk
    unfold stopgatelaw04_From.l0
    have e : l.take n ++ [(⟨(rd_T43 (l.map cv) n).f0, (rd_T43 (l.map cv) n).f1⟩ : S68)] = l.take (n + 1) := by
      rw [rd_cv, rd68_nat l n (by omega), List.take_succ_eq_append_getElem (by omega)]; rfl
    rw [if_pos (by rw [List.length_map]; omega), if_pos (by omega), if_pos (by rw [List.length_take]; omega), w64 (by omega), e]
    exact ih (n + 1) k (by omega) (by omega)
theorem from_f (l : List S68) (hl : l.length ≤ 1000) (u : List Int) (hu : u.length ≤ 1000) {k : Nat} (hk : l.length < k) : stopgatelaw04_From.f k (l.map cv) u = some (l, u) := by
  unfold stopgatelaw04_From.f
  simp only [Option.bind_some, List.length_nil, List.nil_append]
  rw [if_pos (by omega)]
  exact from_l0 l hl u u l.length 0 k (by omega) hk
theorem told_f : stopgatelaw04_told.f 40 = some true := by decide +kernel
theorem told_k {k : Nat} (hk : 40 ≤ k) : stopgatelaw04_told.f k = some true := at_rounds (g := fun k => stopgatelaw04_told.f k) (fun k => stopgatelaw04_told.mono k) hk told_f
def inb (x : Int) : Bool := decide (0 ≤ x) && decide (x ≤ 4611686018427387904)
theorem closure_f (x : Int) : credit_Right_1.f x = some (!inb x) := by
  unfold credit_Right_1.f credit_within.f inb
  by_cases h : x ≥ 0
  · rw [if_pos h]; simp [show 0 ≤ x from h]
  · rw [if_neg h]; simp [show ¬ 0 ≤ x by omega]
theorem index_l0 (u : List Int) (hu : u.length ≤ 1000) (hb : ∀ n : Nat, n < u.length → inb (rd u n) = true) : ∀ d (n k : Nat), n + d = u.length → d < k → slices_IndexFunc_int64_int64.l0 k u u.length (n : Int) = some (-1) := by
  intro d
  induction d with
  | zero =>
    intro n k hn hk
    obtain ⟨k, rfl⟩ := pred hk
    unfold slices_IndexFunc_int64_int64.l0
    rw [if_neg (by omega)]
  | succ d ih =>
    intro n k hn hk
    obtain ⟨k, rfl⟩ := pred hk
    unfold slices_IndexFunc_int64_int64.l0
    rw [if_pos (by omega), if_pos (by omega), if_pos (by omega), closure_f, Option.bind_some, hb n (by omega), if_neg (by simp), w64 (by omega)]
    exact ih (n + 1) k (by omega) (by omega)
theorem chk_ok (t : List S68) (hv : Val t) (h0 : 0 < t.length) (h1 : t.length ≤ 10) : (chk t).1 = 0 := by
  have hw : ∀ n : Nat, n < t.length → wrg (rd_T68 t n) t.length = 0 := by
    intro n hn
    have hu := hv.up n hn
    have hc := hv.caps n hn
    unfold par at hu
    unfold wrg
    rw [if_neg (by omega), if_neg (by omega)]
  have hf : ∀ d (n : Nat), n + d = t.length → firstw t d n = none := by
    intro d
    induction d with
    | zero => intro n _; rfl
    | succ d ih => intro n hn; rw [firstw, if_pos (hw n (by omega))]; exact ih (n + 1) (by omega)
  have hl : ∀ d (n : Nat), n + d = t.length → longs t d n = (0, -1) := by
    intro d
    induction d with
    | zero => intro n _; rfl
    | succ d ih => intro n hn; rw [longs, if_pos (hv.fin n (by omega))]; exact ih (n + 1) (by omega)
  unfold chk
  rw [if_neg (by omega), if_neg (by omega), hf _ _ (by omega), hl _ _ (by omega)]
  rfl
/-- A State that may be. -/
structure Good (t : List S68) (u : List Int) : Prop where
  val : Val t
  pos : 0 < t.length
  few : t.length ≤ 10
  inv : Inv t u
theorem Good.cap {t : List S68} {u : List Int} (h : Good t u) : ∀ n, 0 ≤ n → n < (t.length : Int) → 0 ≤ cap t n ∧ cap t n ≤ 4611686018427387904 := fun n h0 h1 => h.val.at n h0 h1
theorem good_right {t : List S68} {u : List Int} (h : Good t u) : credit_Right.f 1000 (t.map cv) u = some true := by
  have hl := h.inv.len
  have hf := h.few
  unfold credit_Right.f
  rw [tree_check t (by omega), Option.bind_some, List.length_map, if_pos (chk_ok t h.val h.pos h.few), if_pos (by omega)]
  unfold slices_ContainsFunc_int64_int64.f slices_IndexFunc_int64_int64.f
  have := index_l0 u (by omega) (fun n hn => by have := h.inv.ok n (by omega); unfold inb; simp [this]) u.length 0 1000 (by omega) (by omega)
  rw [show slices_IndexFunc_int64_int64.l0 1000 u u.length 0 = some (-1) from this]
  rfl
theorem same_l0 (t : List S68) (u : List Int) (ht : t.length ≤ 1000) : ∀ d (n k : Nat), n + d = t.length → d < k → stopgateref04_Same.l0 k (n : Int) t u t u = some true := by
  intro d
  induction d with
  | zero =>
    intro n k hn hk
    obtain ⟨k, rfl⟩ := pred hk
    unfold stopgateref04_Same.l0
    rw [if_neg (by omega)]
  | succ d ih =>
    intro n k hn hk
    obtain ⟨k, rfl⟩ := pred hk
    unfold stopgateref04_Same.l0
    rw [if_pos (by omega), if_pos (by omega), if_pos (by omega), if_neg (by simp), w64 (by omega)]
    by_cases h : (n : Int) < u.length
    · rw [if_pos h, if_pos h, if_pos rfl]
      exact ih (n + 1) k (by omega) (by omega)
    · rw [if_neg h]
      exact ih (n + 1) k (by omega) (by omega)
theorem same_f (t : List S68) (u : List Int) (ht : t.length ≤ 900) : stopgateref04_Same.f 1000 t u t u = some true := by
  unfold stopgateref04_Same.f
  rw [if_pos rfl]
  have hj : ∀ b, stopgateref04_Same.j0 1000 b t u t u = if b = true then some false else stopgateref04_Same.l0 999 0 t u t u := fun _ => rfl
  rw [hj, if_neg (by simp)]
  exact same_l0 t u (by omega) t.length 0 999 (by omega) (by omega)
theorem clm_le {t : List S68} (hv : Val t) : ∀ d (n : Int), ∀ x ∈ (clm t d n).1, x ≤ n := by
  intro d
  induction d with
  | zero => intro n x hx; simp [clm] at hx
  | succ d ih =>
    intro n x hx
    rw [clm] at hx
    split at hx
    · rename_i h
      rcases List.mem_cons.1 hx with rfl | hx
      · exact Int.le_refl _
      · have h1 := ih _ x hx
        have h2 := hv.up n.toNat (by omega)
        rw [show ((n.toNat : Nat) : Int) = n by omega] at h2
        omega
    · simp at hx
theorem clm_nodup {t : List S68} (hv : Val t) : ∀ d (n : Int), (clm t d n).1.Nodup := by
  intro d
  induction d with
  | zero => intro n; simp [clm]
  | succ d ih =>
    intro n
    rw [clm]
    split
    · rename_i h
      refine List.nodup_cons.2 ⟨fun hm => ?_, ih _⟩
      have h1 := clm_le hv d _ n hm
      have h2 := hv.up n.toNat (by omega)
      rw [show ((n.toNat : Nat) : Int) = n by omega] at h2
      have h3 := clm_mem t d _ n hm
      rcases h2 with h2 | h2
      · omega
      · omega
    · simp
/-- What is laid beside each of the path. -/
def addp (u : List Int) (amt : Int) : List Int → List Int → List Int
  | [], w => w
  | n :: p, w => addp u amt p (w.set n.toNat (rd u n + amt))
def ff (t : List S68) (u : List Int) (amt : Int) : List Int → Nat → Option (Int × Int)
  | [], _ => none
  | n :: p, i => if rd u n + amt ≤ cap t n then ff t u amt p (i + 1) else some (12 + (i : Int), n)
theorem resv_ff (t : List S68) (u : List Int) (amt : Int) : ∀ (p : List Int) (i : Nat) (w : List Int), resv t u amt p i w = match ff t u amt p i with | some (c, n) => (u, c, n) | none => (addp u amt p w, 0, -1) := by
  intro p
  induction p with
  | nil => intro i w; rfl
  | cons n p ih =>
    intro i w
    rw [resv, ff]
    by_cases h : rd u n + amt ≤ cap t n
    · rw [if_pos h, if_pos h, ih]; rfl
    · rw [if_neg h, if_neg h]
theorem rd_set_ne (u : List Int) (n m : Int) (h0 : 0 ≤ n) (h1 : 0 ≤ m) (hne : n ≠ m) (v : Int) : rd (u.set n.toNat v) m = rd u m := by
  unfold rd
  simp only [List.getD_eq_getElem?_getD, List.getElem?_set]
  rw [if_neg (by omega)]
theorem ff_none {t : List S68} {u : List Int} {amt : Int} : ∀ (p : List Int) (i : Nat), ff t u amt p i = none → ∀ x ∈ p, rd u x + amt ≤ cap t x := by
  intro p
  induction p with
  | nil => intro i _ x hx; cases hx
  | cons n p ih =>
    intro i h x hx
    rw [ff] at h
    split at h
    · rename_i hn
      rcases List.mem_cons.1 hx with rfl | hx
      · exact hn
      · exact ih _ h x hx
    · cases h
section
variable {t : List S68} {u : List Int} (hg : Good t u) (amt : Int) (p : List Int) (hp : ∀ x ∈ p, 0 ≤ x ∧ x < t.length) (hnd : p.Nodup) (hl : p.length ≤ 3)
include hg hp hnd hl
theorem rres_l1 (ha : 0 ≤ amt) (hok : ∀ x ∈ p, rd u x + amt ≤ cap t x) : ∀ d (i : Nat) (w : List Int) (k : Nat), i + d = p.length → w.length = t.length → (∀ x ∈ p.drop i, rd w x = rd u x) → d < k →
    stopgateref04_Reserve.l1 k amt p (i : Int) t w = some (t, addp u amt (p.drop i) w, 0, -1) := by
  intro d
  induction d with
  | zero =>
    intro i w k hi hw hx hk
    obtain ⟨k, rfl⟩ := pred hk
    unfold stopgateref04_Reserve.l1
    rw [if_neg (by omega), List.drop_eq_nil_of_le (by omega)]; rfl
  | succ d ih =>
    intro i w k hi hw hx hk
    obtain ⟨k, rfl⟩ := pred hk
    have hm := hp (rd p i) (rd_mem p i (by omega))
    have hd : p.drop i = rd p i :: p.drop (i + 1) := by rw [rd_nat p i (by omega)]; exact List.drop_eq_getElem_cons (by omega)
    have hok' := hok _ (rd_mem p i (by omega))
    have hb := hg.inv.at _ hm.1 hm.2
    have hc := hg.cap _ hm.1 hm.2
    rw [hd] at hx ⊢
    have hnd2 : (rd p i :: p.drop (i + 1)).Nodup := by rw [← hd]; exact hnd.sublist (List.drop_sublist _ _)
    have hni := (List.nodup_cons.1 hnd2).1
    unfold stopgateref04_Reserve.l1
    rw [if_pos (by omega), if_pos (by omega), if_pos hm.1, if_pos (by rw [hw]; exact hm.2), w64 (by omega), hx _ (by simp), w64_in (by omega) (by omega), addp]
    refine ih (i + 1) _ k (by omega) (by rw [List.length_set]; exact hw) (fun x hxm => ?_) (by omega)
    rw [rd_set_ne _ _ _ hm.1 (hp x (List.mem_of_mem_drop hxm)).1 (fun e => hni (by rw [e]; exact hxm))]
    exact hx x (by simp [hxm])
theorem rres_l0 (ha : 0 ≤ amt) (ha2 : amt ≤ 9223372036854775807) : ∀ d (i : Nat) (k : Nat), i + d = p.length → (∀ x ∈ p.take i, rd u x + amt ≤ cap t x) → d + 6 < k →
    stopgateref04_Reserve.l0 k amt p (i : Int) t u = some (t, match ff t u amt (p.drop i) i with | some (c, n) => (u, c, n) | none => (addp u amt p u, 0, -1)) := by
  intro d
  induction d with
  | zero =>
    intro i k hi hok hk
    obtain ⟨k, rfl⟩ := pred (show 0 < k by omega)
    unfold stopgateref04_Reserve.l0
    rw [if_neg (by omega), List.drop_eq_nil_of_le (by omega)]
    simp only [Option.bind_some, List.length_nil, List.nil_append]
    rw [if_pos (by rw [hg.inv.len]; have := hg.few; omega)]
    have := rres_l1 hg amt p hp hnd hl ha (by rw [List.take_of_length_le (by omega)] at hok; exact hok) p.length 0 u k (by omega) hg.inv.len (fun x _ => rfl) (by omega)
    exact this
  | succ d ih =>
    intro i k hi hok hk
    obtain ⟨k, rfl⟩ := pred (show 0 < k by omega)
    have hm := hp (rd p i) (rd_mem p i (by omega))
    have hd : p.drop i = rd p i :: p.drop (i + 1) := by rw [rd_nat p i (by omega)]; exact List.drop_eq_getElem_cons (by omega)
    have hb := hg.inv.at _ hm.1 hm.2
    have hc := hg.cap _ hm.1 hm.2
    unfold stopgateref04_Reserve.l0
    rw [if_pos (by omega), if_pos (by omega), if_pos hm.1, if_pos hm.2, if_pos (by rw [hg.inv.len]; exact hm.2), hd, ff]
    show (if amt > wrap64 (cap t (rd p i) - rd u (rd p i)) then _ else _) = _
    rw [w64_in (by omega) (by omega), w64 (by omega)]
    by_cases h : rd u (rd p i) + amt ≤ cap t (rd p i)
    · rw [if_neg (by omega), if_pos h]
      refine ih (i + 1) k (by omega) (fun x hx => ?_) (by omega)
      rw [List.take_succ_eq_append_getElem (by omega), List.mem_append, List.mem_singleton, ← rd_nat p i (by omega)] at hx
      rcases hx with hx | rfl
      · exact hok x hx
      · exact h
    · rw [if_pos (by omega), if_neg h, w64_in (by omega) (by omega)]
end
theorem rres_f {t : List S68} {u : List Int} (hg : Good t u) (leaf amt : Int) (ha : amt ≤ 9223372036854775807) : stopgateref04_Reserve.f 1000 t u leaf amt = some (t, resF t u leaf amt) := by
  unfold stopgateref04_Reserve.f resF
  rw [rpath_f t leaf (by omega), Option.bind_some]
  by_cases h1 : (clm t 3 leaf).1 = []
  · rw [if_pos (by simp [h1]), if_pos h1]
  · rw [if_neg (by simpa using h1), if_neg h1]
    by_cases h2 : amt < 0
    · rw [if_pos h2, if_pos h2]
    · rw [if_neg h2, if_neg h2, resv_ff]
      have hl := clm_len t 3 leaf
      have := rres_l0 hg amt _ (clm_mem t 3 leaf) (clm_nodup hg.val 3 leaf) hl (by omega) ha (clm t 3 leaf).1.length 0 1000 (by omega) (fun x hx => by simp at hx) (by omega)
      rw [List.drop_zero] at this
      exact this
/-- Release along a path. -/
def relv (u : List Int) (amt : Int) : List Int → List Int → List Int × Bool
  | [], w => (w, true)
  | n :: p, w => if rd u n < amt then (u, false) else relv u amt p (w.set n.toNat (rd u n - amt))
def relF (t : List S68) (u : List Int) (leaf amt : Int) : List Int × Bool := if (clm t 3 leaf).1 = [] ∨ amt < 0 then (u, false) else relv u amt (clm t 3 leaf).1 u
section
variable {t : List S68} {u : List Int} (hg : Good t u) (amt : Int) (p : List Int) (hp : ∀ x ∈ p, 0 ≤ x ∧ x < t.length) (hnd : p.Nodup) (hl : p.length ≤ 3) (ha : 0 ≤ amt)
include hg hp hnd hl ha
theorem rel_l0 : ∀ d (i : Nat) (w : List Int) (k : Nat), i + d = p.length → w.length = t.length → (∀ x ∈ p.drop i, rd w x = rd u x) → d < k →
    credit_Release.l0 k amt p p.length (i : Int) (t.map cv) u (t.map cv) w = some (t.map cv, relv u amt (p.drop i) w) := by
  intro d
  induction d with
  | zero =>
    intro i w k hi hw hx hk
    obtain ⟨k, rfl⟩ := pred hk
    unfold credit_Release.l0
    rw [if_neg (by omega), List.drop_eq_nil_of_le (by omega)]; rfl
  | succ d ih =>
    intro i w k hi hw hx hk
    obtain ⟨k, rfl⟩ := pred hk
    have hm := hp (rd p i) (rd_mem p i (by omega))
    have hd : p.drop i = rd p i :: p.drop (i + 1) := by rw [rd_nat p i (by omega)]; exact List.drop_eq_getElem_cons (by omega)
    have hb := hg.inv.at _ hm.1 hm.2
    rw [hd] at hx ⊢
    have hnd2 : (rd p i :: p.drop (i + 1)).Nodup := by rw [← hd]; exact hnd.sublist (List.drop_sublist _ _)
    have hni := (List.nodup_cons.1 hnd2).1
    unfold credit_Release.l0
    rw [if_pos (by omega), if_pos (by omega), if_pos (by omega), if_pos hm.1, if_pos (by rw [hg.inv.len]; exact hm.2), relv]
    by_cases h : rd u (rd p i) < amt
    · rw [if_pos h, if_pos h]
    · rw [if_neg h, if_neg h, if_pos (by rw [hw]; exact hm.2), w64 (by omega), hx _ (by simp), w64_in (by omega) (by omega)]
      refine ih (i + 1) _ k (by omega) (by rw [List.length_set]; exact hw) (fun x hxm => ?_) (by omega)
      rw [rd_set_ne _ _ _ hm.1 (hp x (List.mem_of_mem_drop hxm)).1 (fun e => hni (by rw [e]; exact hxm))]
      exact hx x (by simp [hxm])
theorem rrel_l0 : ∀ d (i : Nat) (w : List Int) (k : Nat), i + d = p.length → w.length = t.length → (∀ x ∈ p.drop i, rd w x = rd u x) → d < k →
    stopgateref04_Release.l0 k amt p (i : Int) t u t w = some (t, relv u amt (p.drop i) w) := by
  intro d
  induction d with
  | zero =>
    intro i w k hi hw hx hk
    obtain ⟨k, rfl⟩ := pred hk
    unfold stopgateref04_Release.l0
    rw [if_neg (by omega), List.drop_eq_nil_of_le (by omega)]; rfl
  | succ d ih =>
    intro i w k hi hw hx hk
    obtain ⟨k, rfl⟩ := pred hk
    have hm := hp (rd p i) (rd_mem p i (by omega))
    have hd : p.drop i = rd p i :: p.drop (i + 1) := by rw [rd_nat p i (by omega)]; exact List.drop_eq_getElem_cons (by omega)
    have hb := hg.inv.at _ hm.1 hm.2
    rw [hd] at hx ⊢
    have hnd2 : (rd p i :: p.drop (i + 1)).Nodup := by rw [← hd]; exact hnd.sublist (List.drop_sublist _ _)
    have hni := (List.nodup_cons.1 hnd2).1
    unfold stopgateref04_Release.l0
    rw [if_pos (by omega), if_pos (by omega), if_pos hm.1, if_pos (by rw [hw]; exact hm.2), hx _ (by simp), relv]
    by_cases h : rd u (rd p i) < amt
    · rw [if_pos h, if_pos h]
    · rw [if_neg h, if_neg h, w64 (by omega), w64_in (by omega) (by omega)]
      refine ih (i + 1) _ k (by omega) (by rw [List.length_set]; exact hw) (fun x hxm => ?_) (by omega)
      rw [rd_set_ne _ _ _ hm.1 (hp x (List.mem_of_mem_drop hxm)).1 (fun e => hni (by rw [e]; exact hxm))]
      exact hx x (by simp [hxm])
end
theorem rel_f {t : List S68} {u : List Int} (hg : Good t u) (leaf amt : Int) : credit_Release.f 1000 (t.map cv) u leaf amt = some (t.map cv, relF t u leaf amt) := by
  have hf := hg.few
  have hlen := hg.inv.len
  unfold credit_Release.f relF
  rw [tpath_f t leaf (by omega), Option.bind_some]
  have hj : ∀ b, credit_Release.j0 1000 amt (clm t 3 leaf).1 b (t.map cv) u = if b = true then some (t.map cv, u, false) else (credit_copied.f (t.map cv) u).bind fun bt200 => credit_Release.l0 999 amt (clm t 3 leaf).1 ((clm t 3 leaf).1.length : Int) 0 (t.map cv) u bt200.1 bt200.2 := fun _ => rfl
  rw [hj, hj]
  by_cases h1 : (clm t 3 leaf).1 = []
  · rw [if_pos (by simp [h1]), if_pos rfl, if_pos (Or.inl h1)]
  · rw [if_neg (by simpa using h1)]
    by_cases h2 : amt < 0
    · rw [if_pos (decide_eq_true h2), if_pos (Or.inr h2)]
    · rw [if_neg (fun h => h2 (of_decide_eq_true h)), if_neg (by rintro (h | h) <;> contradiction), copied_f _ _ (by rw [List.length_map]; omega) (by omega), Option.bind_some]
      have hl := clm_len t 3 leaf
      exact rel_l0 hg amt _ (clm_mem t 3 leaf) (clm_nodup hg.val 3 leaf) hl (by omega) (clm t 3 leaf).1.length 0 u 999 (by omega) hlen (fun x _ => rfl) (by omega)
theorem rrel_f {t : List S68} {u : List Int} (hg : Good t u) (leaf amt : Int) : stopgateref04_Release.f 1000 t u leaf amt = some (t, relF t u leaf amt) := by
  have hf := hg.few
  have hlen := hg.inv.len
  unfold stopgateref04_Release.f relF
  rw [rpath_f t leaf (by omega), Option.bind_some]
  have hj : ∀ b, stopgateref04_Release.j0 1000 amt (clm t 3 leaf).1 b t u = if b = true then some (t, u, false) else (some (([] : List Int) : List Int)).bind fun y300 => (if y300.length + u.length < 17592186044416 then (stopgateref04_Release.l0 999 amt (clm t 3 leaf).1 0 t u t (y300 ++ u)) else (none)) := fun _ => rfl
  rw [hj, hj]
  by_cases h1 : (clm t 3 leaf).1 = []
  · rw [if_pos (by simp [h1]), if_pos rfl, if_pos (Or.inl h1)]
  · rw [if_neg (by simpa using h1)]
    by_cases h2 : amt < 0
    · rw [if_pos (decide_eq_true h2), if_pos (Or.inr h2)]
    · rw [if_neg (fun h => h2 (of_decide_eq_true h)), if_neg (by rintro (h | h) <;> contradiction)]
      simp only [Option.bind_some, List.length_nil, List.nil_append]
      rw [if_pos (by omega)]
      have hl := clm_len t 3 leaf
      exact rrel_l0 hg amt _ (clm_mem t 3 leaf) (clm_nodup hg.val 3 leaf) hl (by omega) (clm t 3 leaf).1.length 0 u 999 (by omega) hlen (fun x _ => rfl) (by omega)
theorem relv_inv {t : List S68} {u : List Int} (hu : Inv t u) (amt : Int) (ha : 0 ≤ amt) : ∀ (p w : List Int), (∀ x ∈ p, 0 ≤ x ∧ x < t.length) → Inv t w → Inv t (relv u amt p w).1 := by
  intro p
  induction p with
  | nil => intro w _ hw; exact hw
  | cons n p ih =>
    intro w hp hw
    rw [relv]
    split
    · exact hu
    · have hm := hp n (by simp)
      have hb := hu.at n hm.1 hm.2
      exact ih _ (fun x hx => hp x (by simp [hx])) (hw.set n hm.1 hm.2 _ (by omega))
theorem relF_good {t : List S68} {u : List Int} (hg : Good t u) (leaf amt : Int) : Good t (relF t u leaf amt).1 := by
  refine ⟨hg.val, hg.pos, hg.few, ?_⟩
  unfold relF
  split
  · exact hg.inv
  · rename_i h
    exact relv_inv hg.inv amt (by omega) _ u (clm_mem t 3 leaf) hg.inv
theorem resF_good {t : List S68} {u : List Int} (hg : Good t u) (leaf amt : Int) : Good t (resF t u leaf amt).1 := ⟨hg.val, hg.pos, hg.few, resF_inv t hg.cap u hg.inv leaf amt⟩
/-- Another cap. -/
def limF (t : List S68) (n most : Int) : List S68 × Int :=
  if n < 0 ∨ n ≥ t.length then (t, 18) else if most < 0 ∨ most > 4611686018427387904 then (t, 1) else (t.set n.toNat ⟨(rd_T68 t n).f0, most⟩, 0)
theorem lim_f {t : List S68} {u : List Int} (hg : Good t u) (n most : Int) : credit_Limit.f 1000 (t.map cv) u n most = some ((limF t n most).1.map cv, u, (limF t n most).2) := by
  have hf := hg.few
  have hlen := hg.inv.len
  unfold credit_Limit.f limF
  rw [List.length_map]
  have hj : ∀ b, credit_Limit.j0 1000 n most b (t.map cv) u = if b = true then some (t.map cv, u, 18) else ((credit_within.f most).bind fun t315 => (if t315 = true then ((credit_copied.f (t.map cv) u).bind fun bt316 => (if 0 ≤ n then (if n < (bt316.1.length : Int) then (some ((bt316.1.set (n : Int).toNat (⟨(rd_T43 bt316.1 n).f0, most⟩ : S43)), bt316.2, 0)) else (none)) else (none))) else (some (t.map cv, u, 1)))) := fun _ => rfl
  rw [hj, hj, if_pos rfl]
  by_cases h0 : n < 0
  · rw [if_pos h0, if_pos (.inl h0)]
  · rw [if_neg h0]
    by_cases h1 : n ≥ (t.length : Int)
    · rw [if_pos (by simpa using h1), if_pos (.inr h1)]
    · rw [if_neg (by simpa using h1), if_neg (by omega)]
      unfold credit_within.f
      by_cases h2 : most ≥ 0
      · rw [if_pos h2, Option.bind_some]
        by_cases h3 : most ≤ 4611686018427387904
        · rw [if_pos (by simpa using h3), copied_f _ _ (by rw [List.length_map]; omega) (by omega), Option.bind_some, if_pos (by omega), if_pos (by rw [List.length_map]; omega), if_neg (by omega), List.map_set, rd_cv]
          rfl
        · rw [if_neg (by simpa using h3), if_pos (by omega)]
      · rw [if_neg h2, Option.bind_some, if_neg (by simp), if_pos (by omega)]
theorem rlim_f {t : List S68} {u : List Int} (hg : Good t u) (n most : Int) : stopgateref04_Limit.f 1000 t u n most = some ((limF t n most).1, u, (limF t n most).2) := by
  have hf := hg.few
  unfold stopgateref04_Limit.f limF
  have hj : ∀ b, stopgateref04_Limit.j0 1000 n most b t u = if b = true then some (t, u, 18) else (if most < 0 then (some (t, u, 1)) else (if most > 4611686018427387904 then (some (t, u, 1)) else ((some (([] : List (S68)) : List (S68))).bind fun y326 => (if y326.length + t.length < 8796093022208 then ((some (y326 ++ t : List (S68))).bind fun y329 => (if 0 ≤ n then (if n < (y329.length : Int) then (some ((y329.set (n : Int).toNat (⟨(rd_T68 y329 n).f0, most⟩ : S68)), u, 0)) else (none)) else (none))) else (none))))) := fun _ => rfl
  rw [hj, hj, if_pos rfl]
  by_cases h0 : n < 0
  · rw [if_pos h0, if_pos (.inl h0)]
  · rw [if_neg h0]
    by_cases h1 : n ≥ (t.length : Int)
    · rw [if_pos (by simpa using h1), if_pos (.inr h1)]
    · rw [if_neg (by simpa using h1), if_neg (show ¬ (n < 0 ∨ n ≥ (t.length : Int)) by omega)]
      by_cases h2 : most < 0
      · rw [if_pos h2, if_pos (.inl h2)]
      · rw [if_neg h2]
        by_cases h3 : most > 4611686018427387904
        · rw [if_pos h3, if_pos (.inr h3)]
        · rw [if_neg h3, if_neg (show ¬ (most < 0 ∨ most > 4611686018427387904) by omega)]
          simp only [Option.bind_some, List.length_nil, List.nil_append]
          rw [if_pos (by omega), if_pos (by omega), if_pos (by omega)]
theorem rd68_set (t : List S68) (n : Int) (h0 : 0 ≤ n) (h1 : n < t.length) (v : S68) (m : Nat) : rd_T68 (t.set n.toNat v) m = if (m : Int) = n then v else rd_T68 t m := by
  unfold rd_T68
  simp only [List.getD_eq_getElem?_getD, List.getElem?_set, Int.toNat_natCast]
  by_cases h : n.toNat = m
  · rw [if_pos h, if_pos (by omega), if_pos (by omega)]; rfl
  · rw [if_neg h, if_neg (by omega)]
theorem limF_good {t : List S68} {u : List Int} (hg : Good t u) (n most : Int) : Good (limF t n most).1 u := by
  unfold limF
  split
  · exact hg
  · rename_i h
    split
    · exact hg
    · rename_i h2
      have hr := fun (m : Nat) => rd68_set t n (by omega) (by omega) ⟨(rd_T68 t n).f0, most⟩ m
      have hpar : ∀ m : Nat, par (t.set n.toNat ⟨(rd_T68 t n).f0, most⟩) m = par t m := by
        intro m
        unfold par
        rw [hr m]
        split
        · rename_i e; rw [e]
        · rfl
      have hpi : ∀ x : Int, 0 ≤ x → par (t.set n.toNat ⟨(rd_T68 t n).f0, most⟩) x = par t x := fun x hx => by
        have := hpar x.toNat
        rwa [show ((x.toNat : Nat) : Int) = x by omega] at this
      refine ⟨⟨fun m hm => ?_, fun m hm => ?_, fun m hm => ?_⟩, ?_, ?_, ⟨?_, fun m hm => ?_⟩⟩
      · rw [List.length_set] at hm; rw [hpar]; exact hg.val.up m hm
      · rw [List.length_set] at hm
        rw [hr]
        split
        · show 0 ≤ most ∧ most ≤ _; omega
        · exact hg.val.caps m hm
      · rw [List.length_set] at hm
        have he : ∀ d (x : Nat), x < t.length → ends (t.set n.toNat ⟨(rd_T68 t n).f0, most⟩) d x = ends t d x := by
          intro d
          induction d with
          | zero => intro x _; rfl
          | succ d ih =>
            intro x hx
            rw [ends, ends, hpar]
            rcases hg.val.up x hx with h | h
            · rw [if_pos h, if_pos h]
            · rw [if_neg (by omega), if_neg (by omega)]
              have := ih (par t x).toNat (by omega)
              rwa [show (((par t x).toNat : Nat) : Int) = par t x by omega] at this
        rw [he 3 m hm]; exact hg.val.fin m hm
      · rw [List.length_set]; exact hg.pos
      · rw [List.length_set]; exact hg.few
      · rw [List.length_set]; exact hg.inv.len
      · rw [List.length_set] at hm; exact hg.inv.ok m hm
end Go.Proofs.Ytnodcekkbbmfnaa.Pure
