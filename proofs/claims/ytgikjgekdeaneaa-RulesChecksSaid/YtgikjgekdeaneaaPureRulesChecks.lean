/- The law RulesChecks, over the printed functions alone. No condition. -/
import Derived.Test.YtgikjgekdeaneaaQRulesChecksx12
namespace Go.Proofs.Ytgikjgekdeaneaa.Pure
open Go.RowKit Go.Proofs.Ytgikjgekdeaneaa.QRulesChecks Go.Proofs.YtgikjgekdeaneaaW.PrintWords Go.Proofs.YtgikjgekdeaneaaW.PrintLast Go.Proofs.YtgikjgekdeaneaaW.PrintMore
set_option linter.unusedVariables false
set_option linter.unusedSimpArgs false
theorem w64 {n : Nat} (h : n < 4611686018427387904) : wrap64 ((n : Int) + 1) = ((n + 1 : Nat) : Int) := by unfold wrap64; omega
theorem w64_in {x : Int} (h0 : -9223372036854775808 ≤ x) (h1 : x ≤ 9223372036854775807) : wrap64 x = x := by unfold wrap64; omega
theorem u64_wrap_in {x : Int} (h0 : 0 ≤ x) (h1 : x ≤ 18446744073709551615) : IntKind.u64.wrap x = x := by rw [show IntKind.u64.wrap x = x % 18446744073709551616 from rfl]; omega
theorem i64_range {n : Int} (h : (Lit.int .i64 n).wf = true) : -9223372036854775808 ≤ n ∧ n ≤ 9223372036854775807 := by
  have h' : (decide (IntKind.i64.min ≤ n) && decide (n ≤ IntKind.i64.max)) = true := h
  have e1 : IntKind.i64.min = -9223372036854775808 := by decide
  have e2 : IntKind.i64.max = 9223372036854775807 := by decide
  rw [e1, e2] at h'
  simp only [Bool.and_eq_true, decide_eq_true_eq] at h'
  exact h'
theorem pred {k d : Nat} (h : d < k) : ∃ m, k = m + 1 := ⟨k - 1, by omega⟩
theorem rd_nat (l : List Int) (n : Nat) (h : n < l.length) : rd l (n : Int) = l[n] := by simp [rd, h]
theorem rd_mem (l : List Int) (n : Nat) (h : n < l.length) : rd l (n : Int) ∈ l := by rw [rd_nat l n h]; exact List.getElem_mem h
abbrev ord (x y : Nat) : Option Ordering := FloatKind.f64.format.order x y
/-- Is it a fraction? -/
def frac (a : Nat) : Bool := ord a 0 == some .gt || ord a 0 == some .eq
theorem dord_self (d : Ieee.Datum) (h : d.isNaN = false) : d.order d = some .eq := by
  cases d with
  | number s m i => simp [Ieee.Datum.order, compare, compareOfLessAndEq]
  | infinity s => simp [Ieee.Datum.order, compare, compareOfLessAndEq]
  | nan s t => cases h
theorem dord_nan (d e : Ieee.Datum) (h : d.isNaN = true) : d.order e = none := by
  cases d with
  | number s m i => cases h
  | infinity s => cases h
  | nan s t => rfl
theorem ord_self (a : Nat) : (ord a a != some .eq) = (FloatKind.f64.decode a).isNaN := by
  unfold ord Ieee.Format.order
  show ((FloatKind.f64.decode a).order (FloatKind.f64.decode a) != some .eq) = _
  cases h : (FloatKind.f64.decode a).isNaN with
  | true => rw [dord_nan _ _ h]; rfl
  | false => rw [dord_self _ h]; rfl
theorem frac_nan (a : Nat) (h : (FloatKind.f64.decode a).isNaN = true) : frac a = false := by
  unfold frac ord Ieee.Format.order
  have : (FloatKind.f64.format.read a).order (FloatKind.f64.format.read 0) = none := dord_nan _ _ h
  rw [this]; rfl
theorem right_f (a : Nat) : band_Right.f a = some (frac a) := by
  unfold band_Right.f math_IsNaN.f
  rw [Option.bind_some]
  rw [show (FloatKind.f64.format.order a a != some .eq) = _ from ord_self a]
  cases h : (FloatKind.f64.decode a).isNaN with
  | true => rw [if_pos rfl, frac_nan a h]
  | false => rw [if_neg (by simp)]; rfl
theorem rright_f (a : Nat) : stopgateref02_Right.f a = some (frac a) := rfl
def cv (x : S176) : S178 := ⟨x.f0, x.f1⟩
theorem rd_cv (l : List S176) (i : Int) : rd_T178 (l.map cv) i = cv (rd_T176 l i) := by
  unfold rd_T178 rd_T176
  simp only [List.getD_eq_getElem?_getD, List.getElem?_map]
  cases l[i.toNat]? <;> rfl
theorem rd68_nat (l : List S176) (n : Nat) (h : n < l.length) : rd_T176 l (n : Int) = l[n] := by simp [rd_T176, h]
theorem to_l0 (l : List S176) (hl : l.length ≤ 1000) : ∀ d (n k : Nat), n + d = l.length → d < k → stopgatelaw03_To.l0 k l ((l.take n).map cv) (n : Int) = some (l.map cv) := by
  intro d
  induction d with
  | zero =>
    intro n k hn hk
    obtain ⟨k, rfl⟩ := pred hk
    unfold stopgatelaw03_To.l0
    rw [if_neg (by omega), List.take_of_length_le (by omega)]
  | succ d ih =>
    intro n k hn hk
    obtain ⟨k, rfl⟩ := pred hk
    unfold stopgatelaw03_To.l0
    have e : (l.take n).map cv ++ [(⟨(rd_T176 l n).f0, (rd_T176 l n).f1⟩ : S178)] = (l.take (n + 1)).map cv := by
      rw [rd68_nat l n (by omega), List.take_succ_eq_append_getElem (by omega), List.map_append]; rfl
    rw [if_pos (by omega), if_pos (by omega), if_pos (by rw [List.length_map, List.length_take]; omega), w64 (by omega), e]
    exact ih (n + 1) k (by omega) (by omega)
theorem to_f (l : List S176) (hl : l.length ≤ 1000) {k : Nat} (hk : l.length < k) : stopgatelaw03_To.f k l = some (l.map cv) := to_l0 l hl l.length 0 k (by omega) hk

def par (l : List S176) (i : Int) : Int := (rd_T176 l i).f0
def ends (l : List S176) : Nat → Int → Bool
  | 0, _ => false
  | k + 1, n => if par l n = -1 then true else ends l k (par l n)
def wrg (x : S176) (m : Int) : Int := if x.f0 ≠ -1 ∧ (x.f0 < 0 ∨ x.f0 ≥ m) then 18 else if x.f1 < 0 ∨ x.f1 > 4611686018427387904 then 1 else 0
def firstw (l : List S176) : Nat → Nat → Option (Int × Int)
  | 0, _ => none
  | d + 1, n => if wrg (rd_T176 l n) l.length = 0 then firstw l d (n + 1) else some (wrg (rd_T176 l n) l.length, (n : Int))
def longs (l : List S176) : Nat → Nat → Int × Int
  | 0, _ => (0, -1)
  | d + 1, n => if ends l 3 n = true then longs l d (n + 1) else (16, (n : Int))
def chk (l : List S176) : Int × Int := if (l.length : Int) > 32 then (11, 0) else if (l.length : Int) = 0 then (1, 0) else (firstw l l.length 0).getD (longs l l.length 0)

/-- A node by itself is right. -/
def okn (l : List S176) (n : Nat) : Prop := (par l n = -1 ∨ 0 ≤ par l n ∧ par l n < l.length) ∧ 0 ≤ (rd_T176 l n).f1 ∧ (rd_T176 l n).f1 ≤ 4611686018427387904
theorem wrg_ok {l : List S176} {n : Nat} (h : wrg (rd_T176 l n) l.length = 0) : okn l n := by
  unfold wrg at h
  unfold okn par
  split at h
  · cases h
  · split at h
    · cases h
    · omega
theorem wrong_f (x : S176) (m : Int) {k : Nat} (hk : 0 < k) : tree_Node_wrong.f k x.f0 x.f1 m = some (wrg x m) := by
  obtain ⟨k, rfl⟩ := pred hk
  unfold tree_Node_wrong.f wrg
  by_cases h1 : x.f0 = -1
  · rw [if_pos h1, if_neg (show ¬ (x.f0 ≠ -1 ∧ (x.f0 < 0 ∨ x.f0 ≥ m)) by omega)]
    simp only [tree_Node_wrong.j0]
    by_cases h2 : x.f1 < 0
    · simp [h2]
    · by_cases h3 : x.f1 > 4611686018427387904
      · simp [h2, h3]
      · simp [h2, h3]
  · rw [if_neg h1]
    by_cases h0 : x.f0 < 0
    · rw [if_pos h0, if_pos (by omega)]; simp [tree_Node_wrong.j0]
    · rw [if_neg h0]
      by_cases h4 : x.f0 ≥ m
      · rw [if_pos (by omega)]; simp [tree_Node_wrong.j0, h4]
      · rw [if_neg (by omega)]
        simp only [tree_Node_wrong.j0, h4]
        by_cases h2 : x.f1 < 0
        · simp [h2]
        · by_cases h3 : x.f1 > 4611686018427387904
          · simp [h2, h3]
          · simp [h2, h3]
theorem tree_l2 (l : List S176) (hok : ∀ n, n < l.length → okn l n) (i i' : Int) : ∀ d (j : Nat) (at_ : Int) (k : Nat), j + d = 3 → 0 ≤ at_ → at_ < l.length → d < k →
    (ends l d at_ = true → ∃ k', k ≤ k' + d + 1 ∧ tree_Check.l2 k (l.map cv) i at_ l.length i' (j : Int) = tree_Check.l1 k' (l.map cv) l.length (wrap64 (i' + 1))) ∧
    (ends l d at_ = false → tree_Check.l2 k (l.map cv) i at_ l.length i' (j : Int) = some (16, i)) := by
  intro d
  induction d with
  | zero =>
    intro j at_ k hj h0 h1 hk
    obtain ⟨k, rfl⟩ := pred hk
    refine ⟨fun h => by simp [ends] at h, fun _ => ?_⟩
    unfold tree_Check.l2
    rw [if_neg (by omega)]
  | succ d ih =>
    intro j at_ k hj h0 h1 hk
    obtain ⟨k, rfl⟩ := pred hk
    have ho := hok at_.toNat (by omega)
    have ea : ((at_.toNat : Nat) : Int) = at_ := by omega
    have hp : (rd_T178 (l.map cv) at_).f0 = par l at_ := by rw [rd_cv]; rfl
    have hu : tree_Check.l2 (k + 1) (l.map cv) i at_ l.length i' (j : Int) = (if par l at_ = -1 then tree_Check.l1 k (l.map cv) l.length (wrap64 (i' + 1)) else tree_Check.l2 k (l.map cv) i (par l at_) l.length i' ((j + 1 : Nat) : Int)) := by
      conv => lhs; unfold tree_Check.l2
      rw [if_pos (by omega), if_pos h0, if_pos (by rw [List.length_map]; exact h1), hp, w64 (by omega)]
    rw [hu]
    by_cases hm : par l at_ = -1
    · rw [if_pos hm]
      refine ⟨fun _ => ⟨k, by omega, rfl⟩, fun h => ?_⟩
      rw [ends, if_pos hm] at h; cases h
    · rw [if_neg hm]
      unfold okn at ho
      rw [ea] at ho
      have hq : 0 ≤ par l at_ ∧ par l at_ < l.length := by omega
      obtain ⟨ih1, ih2⟩ := ih (j + 1) (par l at_) k (by omega) hq.1 hq.2 (by omega)
      have he : ends l (d + 1) at_ = ends l d (par l at_) := by rw [ends, if_neg hm]
      rw [he]
      refine ⟨fun h => ?_, ih2⟩
      obtain ⟨k', h1, h2⟩ := ih1 h
      exact ⟨k', by omega, h2⟩
theorem tree_l1 (l : List S176) (hl : l.length ≤ 1000) (hok : ∀ n, n < l.length → okn l n) : ∀ d (n k : Nat), n + d = l.length → 6 * d < k → tree_Check.l1 k (l.map cv) l.length (n : Int) = some (longs l d n) := by
  intro d
  induction d with
  | zero =>
    intro n k hn hk
    obtain ⟨k, rfl⟩ := pred hk
    unfold tree_Check.l1
    rw [if_neg (by omega)]; rfl
  | succ d ih =>
    intro n k hn hk
    obtain ⟨k, rfl⟩ := pred hk
    unfold tree_Check.l1
    rw [if_pos (by omega)]
    obtain ⟨h1, h2⟩ := tree_l2 l hok (n : Int) (n : Int) 3 0 (n : Int) k (by omega) (by omega) (by omega) (by omega)
    cases he : ends l 3 n with
    | true =>
      obtain ⟨k', hk', e⟩ := h1 he
      have e' : tree_Check.l2 k (l.map cv) n n l.length n 0 = _ := e
      rw [e', w64 (by omega), ih (n + 1) k' (by omega) (by omega)]
      rw [longs, if_pos he]
    | false =>
      have e' : tree_Check.l2 k (l.map cv) n n l.length n 0 = _ := h2 he
      rw [e', longs, if_neg (by rw [he]; simp)]
theorem tree_l0 (l : List S176) (hl : l.length ≤ 1000) : ∀ d (n k : Nat), n + d = l.length → (∀ j, j < n → okn l j) → 6 * l.length + d + 2 < k → tree_Check.l0 k (l.map cv) (l.map cv) l.length (n : Int) = some ((firstw l d n).getD (longs l l.length 0)) := by
  intro d
  induction d with
  | zero =>
    intro n k hn hok hk
    obtain ⟨k, rfl⟩ := pred hk
    unfold tree_Check.l0
    rw [if_neg (by omega), List.length_map]
    exact tree_l1 l hl (fun j hj => hok j (by omega)) l.length 0 k (by omega) (by omega)
  | succ d ih =>
    intro n k hn hok hk
    obtain ⟨k, rfl⟩ := pred hk
    unfold tree_Check.l0
    rw [if_pos (by omega), if_pos (by omega), if_pos (by rw [List.length_map]; omega), rd_cv, List.length_map]
    show (tree_Node_wrong.f k (rd_T176 l n).f0 (rd_T176 l n).f1 l.length).bind _ = _
    rw [wrong_f _ _ (by omega), Option.bind_some]
    unfold firstw
    by_cases hw : wrg (rd_T176 l n) l.length = 0
    · rw [if_pos hw, if_pos hw, w64 (by omega)]
      exact ih (n + 1) k (by omega) (fun j hj => by
        rcases Nat.lt_or_ge j n with h | h
        · exact hok j h
        · obtain rfl : j = n := by omega
          exact wrg_ok hw) (by omega)
    · rw [if_neg hw, if_neg hw]; rfl
theorem tree_check (l : List S176) {k : Nat} (hk : 300 ≤ k) : tree_Check.f k (l.map cv) = some (chk l) := by
  unfold tree_Check.f chk
  rw [List.length_map]
  by_cases h1 : (l.length : Int) > 32
  · rw [if_pos h1, if_pos h1]
  · rw [if_neg h1, if_neg h1]
    by_cases h2 : (l.length : Int) = 0
    · rw [if_pos h2, if_pos h2]
    · rw [if_neg h2, if_neg h2]
      exact tree_l0 l (by omega) l.length 0 k (by omega) (fun j hj => absurd hj (Nat.not_lt_zero _)) (by omega)
/-- The path from a node up, of as many as may be; was that all? -/
def clm (l : List S176) : Nat → Int → List Int × Bool
  | 0, n => ([], !(decide (0 ≤ n) && decide (n < l.length)))
  | k + 1, n => if 0 ≤ n ∧ n < l.length then (n :: (clm l k (par l n)).1, (clm l k (par l n)).2) else ([], true)
theorem clm_out {l : List S176} {k : Nat} {n : Int} (h : ¬ (0 ≤ n ∧ n < l.length)) : clm l k n = ([], true) := by
  cases k with
  | zero =>
    unfold clm
    by_cases h0 : 0 ≤ n
    · have : ¬ n < l.length := fun h' => h ⟨h0, h'⟩
      simp [h0, this]
    · simp [h0]
  | succ k => unfold clm; rw [if_neg h]
theorem climb_l0 (l : List S176) : ∀ d (n : Int) (out : List Int) (k : Nat), out.length + d = 3 → 2 * d + 2 < k → stopgateref03_climb.l0 k l n out = some (out ++ (clm l d n).1, (clm l d n).2) := by
  intro d
  induction d with
  | zero =>
    intro n out k ho hk
    obtain ⟨k, rfl⟩ := pred hk
    obtain ⟨k, rfl⟩ := pred (show 0 < k by omega)
    unfold stopgateref03_climb.l0
    by_cases h : 0 ≤ n ∧ n < l.length
    · rw [if_pos h.1]
      unfold stopgateref03_climb.j1
      rw [if_pos (by simpa using h.2), if_pos (by omega)]
      simp [clm, h.1, h.2]
    · rw [clm_out h]
      by_cases h0 : n ≥ 0
      · rw [if_pos h0]
        have : ¬ n < l.length := fun h' => h ⟨h0, h'⟩
        simp [stopgateref03_climb.j1, this]
      · rw [if_neg h0]; simp [stopgateref03_climb.j1]
  | succ d ih =>
    intro n out k ho hk
    obtain ⟨k, rfl⟩ := pred hk
    obtain ⟨k, rfl⟩ := pred (show 0 < k by omega)
    unfold stopgateref03_climb.l0
    by_cases h : 0 ≤ n ∧ n < l.length
    · rw [if_pos h.1]
      unfold stopgateref03_climb.j1
      rw [if_pos (by simpa using h.2), if_neg (by omega), if_pos (by omega), if_pos h.1, if_pos h.2, ih _ _ k (by simp; omega) (by omega)]
      rw [clm, if_pos h]
      simp [par]
    · rw [clm_out h]
      by_cases h0 : n ≥ 0
      · rw [if_pos h0]
        have : ¬ n < l.length := fun h' => h ⟨h0, h'⟩
        simp [stopgateref03_climb.j1, this]
      · rw [if_neg h0]; simp [stopgateref03_climb.j1]
theorem climb_f (l : List S176) (n : Int) {k : Nat} (hk : 10 ≤ k) : stopgateref03_climb.f k l n = some (clm l 3 n) := by
  have := climb_l0 l 3 n [] k rfl (by omega)
  rw [List.nil_append] at this
  exact this
theorem clm_ends (l : List S176) (hok : ∀ n, n < l.length → okn l n) : ∀ d (n : Int), 0 ≤ n → n < l.length → (clm l d n).2 = ends l d n := by
  intro d
  induction d with
  | zero => intro n h0 h1; simp [clm, ends, h0, h1]
  | succ d ih =>
    intro n h0 h1
    have ho := hok n.toNat (by omega)
    have ea : ((n.toNat : Nat) : Int) = n := by omega
    unfold okn at ho
    rw [ea] at ho
    unfold clm ends
    rw [if_pos ⟨h0, h1⟩]
    by_cases hm : par l n = -1
    · rw [if_pos hm]
      show (clm l d (par l n)).2 = true
      rw [clm_out (by omega)]
    · rw [if_neg hm]
      exact ih _ (by omega) (by omega)
theorem rcheck_l1 (l : List S176) (hl : l.length ≤ 1000) (hok : ∀ n, n < l.length → okn l n) : ∀ d (n k : Nat), n + d = l.length → d + 10 < k → stopgateref03_Check.l1 k l (n : Int) = some (longs l d n) := by
  intro d
  induction d with
  | zero =>
    intro n k hn hk
    obtain ⟨k, rfl⟩ := pred hk
    unfold stopgateref03_Check.l1
    rw [if_neg (by omega)]; rfl
  | succ d ih =>
    intro n k hn hk
    obtain ⟨k, rfl⟩ := pred hk
    unfold stopgateref03_Check.l1 longs
    rw [if_pos (by omega), climb_f l n (by omega), Option.bind_some, clm_ends l hok 3 n (by omega) (by omega), w64 (by omega), ih (n + 1) k (by omega) (by omega)]
    by_cases he : ends l 3 n = true
    · rw [if_pos he, if_pos he]
    · rw [if_neg he, if_neg he]
theorem rcheck_l0 (l : List S176) (hl : l.length ≤ 1000) : ∀ d (n k : Nat), n + d = l.length → (∀ j, j < n → okn l j) → 2 * d + l.length + 20 < k → stopgateref03_Check.l0 k l (n : Int) = some ((firstw l d n).getD (longs l l.length 0)) := by
  intro d
  induction d with
  | zero =>
    intro n k hn hok hk
    obtain ⟨k, rfl⟩ := pred hk
    unfold stopgateref03_Check.l0
    rw [if_neg (by omega)]
    exact rcheck_l1 l hl (fun j hj => hok j (by omega)) l.length 0 k (by omega) (by omega)
  | succ d ih =>
    intro n k hn hok hk
    obtain ⟨k, rfl⟩ := pred hk
    obtain ⟨k, rfl⟩ := pred (show 0 < k by omega)
    have hj : ∀ b, stopgateref03_Check.j1 (k + 1) l n b = if b = true then some (18, (n : Int)) else if (rd_T176 l n).f1 < 0 then some (1, (n : Int)) else if (rd_T176 l n).f1 > 4611686018427387904 then some (1, (n : Int)) else stopgateref03_Check.l0 k l ((n + 1 : Nat) : Int) := by
      intro b
      conv => lhs; unfold stopgateref03_Check.j1
      rw [if_pos (show (0 : Int) ≤ n by omega), if_pos (show (n : Int) < l.length by omega), w64 (by omega)]
    unfold stopgateref03_Check.l0
    rw [if_pos (by omega), if_pos (by omega), hj, hj]
    unfold firstw
    by_cases hw : wrg (rd_T176 l n) l.length = 0
    · have ho := wrg_ok hw
      unfold okn par at ho
      rw [if_pos hw, if_neg (by omega), if_neg (by simp; omega), if_neg (by omega), if_neg (by omega)]
      exact ih (n + 1) k (by omega) (fun j hj => by
        rcases Nat.lt_or_ge j n with h | h
        · exact hok j h
        · obtain rfl : j = n := by omega
          exact wrg_ok hw) (by omega)
    · rw [if_neg hw]
      unfold wrg at hw ⊢
      show _ = some (_, _)
      by_cases h1 : (rd_T176 l n).f0 ≠ -1 ∧ ((rd_T176 l n).f0 < 0 ∨ (rd_T176 l n).f0 ≥ l.length)
      · rw [if_pos h1]
        by_cases h2 : (rd_T176 l n).f0 < -1
        · rw [if_pos h2, if_pos rfl]
        · rw [if_neg h2, if_pos (by simp; omega)]
      · rw [if_neg h1] at hw ⊢
        have h3 : (rd_T176 l n).f1 < 0 ∨ (rd_T176 l n).f1 > 4611686018427387904 := by
          refine Decidable.byContradiction fun h => hw ?_
          rw [if_neg h]
        rw [if_pos h3, if_neg (by omega), if_neg (by simp; omega)]
        by_cases h4 : (rd_T176 l n).f1 < 0
        · rw [if_pos h4]
        · rw [if_neg h4, if_pos (by omega)]
theorem ref_check (l : List S176) {k : Nat} (hk : 300 ≤ k) : stopgateref03_Check.f k l = some (chk l) := by
  unfold stopgateref03_Check.f chk
  by_cases h1 : (l.length : Int) > 32
  · rw [if_pos h1, if_pos h1]
  · rw [if_neg h1, if_neg h1]
    by_cases h2 : (l.length : Int) = 0
    · rw [if_pos h2, if_pos h2]
    · rw [if_neg h2, if_neg h2]
      exact rcheck_l0 l (by omega) l.length 0 k (by omega) (fun j hj => absurd hj (Nat.not_lt_zero _)) (by omega)
def sv (x : S86) : S147 := ⟨x.f0, x.f1, x.f2, x.f3⟩
theorem rd_sv (l : List S86) (i : Int) : rd_T147 (l.map sv) i = sv (rd_T86 l i) := by
  unfold rd_T147 rd_T86
  simp only [List.getD_eq_getElem?_getD, List.getElem?_map]
  cases l[i.toNat]? <;> rfl
theorem rd86_nat (l : List S86) (n : Nat) (h : n < l.length) : rd_T86 l (n : Int) = l[n] := by simp [rd_T86, h]
theorem sto_l0 (a0 a1 a2 a3 : Int) (l4 : List S176) (l5 : List Int) (l : List S86) (hl : l.length ≤ 1000) (b0 b1 b2 b3 : Int) (m4 : List S178) (m5 : List Int) : ∀ d (n k : Nat), n + d = l.length → d < k → stopgatelaw05_To.l0 k (n : Int) a0 a1 a2 a3 l4 l5 l b0 b1 b2 b3 m4 m5 ((l.take n).map sv) = some (b0, b1, b2, b3, m4, m5, l.map sv) := by
  intro d
  induction d with
  | zero =>
    intro n k hn hk
    obtain ⟨k, rfl⟩ := pred hk
    unfold stopgatelaw05_To.l0
    rw [if_neg (by omega), List.take_of_length_le (by omega)]
  | succ d ih =>
    intro n k hn hk
    obtain ⟨k, rfl⟩ := pred hk
    unfold stopgatelaw05_To.l0
    have e : (l.take n).map sv ++ [(⟨(rd_T86 l n).f0, (rd_T86 l n).f1, (rd_T86 l n).f2, (rd_T86 l n).f3⟩ : S147)] = (l.take (n + 1)).map sv := by
      rw [rd86_nat l n (by omega), List.take_succ_eq_append_getElem (by omega), List.map_append]; rfl
    rw [if_pos (by omega), if_pos (by omega), if_pos (by rw [List.length_map, List.length_take]; omega), w64 (by omega), e]
    exact ih (n + 1) k (by omega) (by omega)
theorem lto5 (a0 a1 a2 a3 : Int) (l4 : List S176) (l5 : List Int) (l : List S86) (h4 : l4.length ≤ 1000) (h5 : l5.length ≤ 1000) (hl : l.length ≤ 1000) {k : Nat} (hk : 1100 ≤ k) : stopgatelaw05_To.f k a0 a1 a2 a3 l4 l5 l = some (a0, a1, a2, a3, l4.map cv, l5, l.map sv) := by
  unfold stopgatelaw05_To.f
  rw [to_f l4 h4 (by omega), Option.bind_some, Option.bind_some, if_pos (by simp only [List.length_nil]; omega), List.nil_append]
  exact sto_l0 a0 a1 a2 a3 l4 l5 l hl a0 a1 a2 a3 _ l5 l.length 0 k (by omega) (by omega)
def fv (x : S145) : S86 := ⟨x.f0, x.f1, x.f2, x.f3.toNat⟩
theorem rd145_nat (l : List S145) (n : Nat) (h : n < l.length) : rd_T145 l (n : Int) = l[n] := by simp [rd_T145, h]
theorem ref_l0 (a0 a1 a2 a3 : Int) (l4 : List S176) (l5 : List Int) (l : List S145) (hl : l.length ≤ 1000) (b0 b1 b2 b3 : Int) (m4 : List S176) (m5 : List Int) : ∀ d (n k : Nat), n + d = l.length → d < k → stopgatelaw05_Ref.l0 k (n : Int) a0 a1 a2 a3 l4 l5 l b0 b1 b2 b3 m4 m5 ((l.take n).map fv) = some (b0, b1, b2, b3, m4, m5, l.map fv) := by
  intro d
  induction d with
  | zero =>
    intro n k hn hk
    obtain ⟨k, rfl⟩ := pred hk
    unfold stopgatelaw05_Ref.l0
    rw [if_neg (by omega), List.take_of_length_le (by omega)]
  | succ d ih =>
    intro n k hn hk
    obtain ⟨k, rfl⟩ := pred hk
    unfold stopgatelaw05_Ref.l0
    have e : (l.take n).map fv ++ [(⟨(rd_T145 l n).f0, (rd_T145 l n).f1, (rd_T145 l n).f2, ((rd_T145 l n).f3).toNat⟩ : S86)] = (l.take (n + 1)).map fv := by
      rw [rd145_nat l n (by omega), List.take_succ_eq_append_getElem (by omega), List.map_append]; rfl
    rw [if_pos (by omega), if_pos (by omega), if_pos (by rw [List.length_map, List.length_take]; omega), w64 (by omega), e]
    exact ih (n + 1) k (by omega) (by omega)
theorem ref5 (a0 a1 a2 a3 : Int) (l4 : List S176) (l5 : List Int) (l : List S145) (hl : l.length ≤ 1000) {k : Nat} (hk : 1100 ≤ k) : stopgatelaw05_Ref.f k a0 a1 a2 a3 l4 l5 l = some (a0, a1, a2, a3, l4, l5, l.map fv) := by
  unfold stopgatelaw05_Ref.f
  exact ref_l0 a0 a1 a2 a3 l4 l5 l hl a0 a1 a2 a3 l4 l5 l.length 0 k (by omega) (by omega)
/-- Does one of so many places from here on have it? -/
def anyf (p : Nat → Bool) : Nat → Nat → Bool
  | 0, _ => false
  | d + 1, n => if p n = true then true else anyf p d (n + 1)
theorem within_int (a l h : Int) : rules_within_int.f a l h = some (decide (l ≤ a) && decide (a ≤ h)) := by
  unfold rules_within_int.f
  by_cases h1 : a ≥ l
  · rw [if_pos h1]; simp [show l ≤ a from h1]
  · rw [if_neg h1]; simp [show ¬ l ≤ a by omega]
theorem within_int64 (a l h : Int) : rules_within_int64.f a l h = some (decide (l ≤ a) && decide (a ≤ h)) := by
  unfold rules_within_int64.f
  by_cases h1 : a ≥ l
  · rw [if_pos h1]; simp [show l ≤ a from h1]
  · rw [if_neg h1]; simp [show ¬ l ≤ a by omega]
def badn (m : Nat) (u : List Int) (n : Nat) : Bool := !(decide (0 ≤ rd u n) && decide (rd u n < m))
theorem index5_l0 (lf : List S178) (hm : lf.length ≤ 1000) (u : List Int) (hu : u.length ≤ 1000) : ∀ d (n k : Nat), n + d = u.length → d < k → ∃ r, slices_IndexFunc_int_int.l0 lf k u u.length (n : Int) = some r ∧ decide (r ≥ 0) = anyf (badn lf.length u) d n := by
  intro d
  induction d with
  | zero =>
    intro n k hn hk
    obtain ⟨k, rfl⟩ := pred hk
    unfold slices_IndexFunc_int_int.l0
    rw [if_neg (by omega)]
    exact ⟨-1, rfl, rfl⟩
  | succ d ih =>
    intro n k hn hk
    obtain ⟨k, rfl⟩ := pred hk
    unfold slices_IndexFunc_int_int.l0 anyf
    have hc : rules_Check_1.f (rd u n) lf = some (badn lf.length u n) := by
      unfold rules_Check_1.f badn
      rw [within_int, Option.bind_some, w64_in (by omega) (by omega)]
      congr 3
      rw [decide_eq_decide]; omega
    rw [if_pos (by omega), if_pos (by omega), if_pos (by omega), hc, Option.bind_some]
    cases hb : badn lf.length u n with
    | false =>
      obtain ⟨r, h1, h2⟩ := ih (n + 1) k (by omega) (by omega)
      exact ⟨r, by rw [if_neg (by simp), w64 (by omega)]; exact h1, by rw [if_neg (by simp)]; exact h2⟩
    | true => exact ⟨n, by rw [if_pos rfl], by rw [if_pos rfl]; exact decide_eq_true (by omega)⟩
theorem contains5 (lf : List S178) (hm : lf.length ≤ 1000) (u : List Int) (hu : u.length ≤ 1000) {k : Nat} (hk : u.length < k) : slices_ContainsFunc_int_int.f k u lf = some (anyf (badn lf.length u) u.length 0) := by
  unfold slices_ContainsFunc_int_int.f slices_IndexFunc_int_int.f
  obtain ⟨r, h1, h2⟩ := index5_l0 lf hm u hu u.length 0 k (by omega) hk
  have h1' : slices_IndexFunc_int_int.l0 lf k u u.length 0 = some r := h1
  rw [h1', Option.bind_some, h2]
def good (x : S86) : Bool := decide (1 ≤ x.f0) && decide (x.f0 ≤ 1099511627776) && (decide (1 ≤ x.f1) && decide (x.f1 ≤ 1099511627776)) && decide (0 ≤ x.f2) && frac x.f3
theorem sym_f (x : S86) : rules_Check_2.f x.f0 x.f1 x.f2 x.f3 = some (!good x) := by
  unfold rules_Check_2.f rules_Symbol_right.f good
  rw [within_int64, within_int64, right_f, Option.bind_some, Option.bind_some, Option.bind_some]
  cases (decide (1 ≤ x.f0) && decide (x.f0 ≤ 1099511627776)) with
  | false => rfl
  | true =>
    cases (decide (1 ≤ x.f1) && decide (x.f1 ≤ 1099511627776)) with
    | false => rfl
    | true =>
      by_cases h : x.f2 ≥ 0
      · simp [h, show 0 ≤ x.f2 from h]
      · simp [h, show ¬ 0 ≤ x.f2 by omega]
theorem index6_l0 (u : List S86) (hu : u.length ≤ 1000) : ∀ d (n k : Nat), n + d = u.length → d < k → ∃ r, rules_Symbol_112.l0 k (u.map sv) u.length (n : Int) = some r ∧ decide (r ≥ 0) = anyf (fun n => !good (rd_T86 u n)) d n := by
  intro d
  induction d with
  | zero =>
    intro n k hn hk
    obtain ⟨k, rfl⟩ := pred hk
    unfold rules_Symbol_112.l0
    rw [if_neg (by omega)]
    exact ⟨-1, rfl, rfl⟩
  | succ d ih =>
    intro n k hn hk
    obtain ⟨k, rfl⟩ := pred hk
    unfold rules_Symbol_112.l0 anyf
    have hc : rules_Check_2.f (rd_T147 (u.map sv) n).f0 (rd_T147 (u.map sv) n).f1 (rd_T147 (u.map sv) n).f2 (rd_T147 (u.map sv) n).f3 = some (!good (rd_T86 u n)) := by
      rw [rd_sv]; exact sym_f _
    rw [if_pos (by omega), if_pos (by omega), if_pos (by rw [List.length_map]; omega), hc, Option.bind_some]
    cases hb : (!good (rd_T86 u n)) with
    | false =>
      obtain ⟨r, h1, h2⟩ := ih (n + 1) k (by omega) (by omega)
      exact ⟨r, by rw [if_neg (by simp), w64 (by omega)]; exact h1, by rw [if_neg (by simp)]; exact h2⟩
    | true => exact ⟨n, by rw [if_pos rfl], by rw [if_pos rfl]; exact decide_eq_true (by omega)⟩
theorem contains6 (u : List S86) (hu : u.length ≤ 1000) {k : Nat} (hk : u.length < k) : rules_Symbol_89.f k (u.map sv) = some (anyf (fun n => !good (rd_T86 u n)) u.length 0) := by
  unfold rules_Symbol_89.f rules_Symbol_112.f
  obtain ⟨r, h1, h2⟩ := index6_l0 u hu u.length 0 k (by omega) hk
  have h1' : rules_Symbol_112.l0 k (u.map sv) ((u.map sv).length : Int) 0 = some r := by rw [List.length_map]; exact h1
  rw [h1', Option.bind_some, h2]
def rest5 (l4 : List S176) (l5 : List Int) (l6 : List S86) : Int :=
  if (chk l4).1 = 0 then (if 1 ≤ l5.length ∧ l5.length ≤ 32 then (if anyf (badn l4.length l5) l5.length 0 = true then 18 else if 1 ≤ l6.length ∧ l6.length ≤ 16 then (if anyf (fun n => !good (rd_T86 l6 n)) l6.length 0 = true then 1 else 0) else 4) else 3) else (chk l4).1
def chk5 (a0 a1 a2 a3 : Int) (l4 : List S176) (l5 : List Int) (l6 : List S86) : Int :=
  if 1 ≤ a0 ∧ a0 ≤ 4 ∧ 0 ≤ a1 ∧ a1 ≤ 16 ∧ 1 ≤ a2 ∧ a2 ≤ 1000 ∧ 1 ≤ a3 ∧ a3 ≤ 64 then rest5 l4 l5 l6 else 1
theorem check5 (a0 a1 a2 a3 : Int) (l4 : List S176) (l5 : List Int) (l6 : List S86) (h4 : l4.length ≤ 1000) (h5 : l5.length ≤ 1000) (h6 : l6.length ≤ 1000) {k : Nat} (hk : 1100 ≤ k) : rules_Check.f k a0 a1 a2 a3 (l4.map cv) l5 (l6.map sv) = some (chk5 a0 a1 a2 a3 l4 l5 l6) := by
  obtain ⟨k, rfl⟩ := pred (show 0 < k by omega)
  have hj : ∀ b, rules_Check.j0 (k + 1) b a0 a1 a2 a3 (l4.map cv) l5 (l6.map sv) = some (if b = true then 1 else rest5 l4 l5 l6) := by
    intro b
    rw [rules_Check.j0]
    cases b with
    | true => rfl
    | false =>
      rw [if_neg (by simp), if_neg (by simp), tree_check l4 (by omega), Option.bind_some, within_int, Option.bind_some, within_int, contains5 _ (by simpa using h4) l5 h5 (by omega), Option.bind_some, Option.bind_some, contains6 l6 h6 (by omega), Option.bind_some, List.length_map, List.length_map]
      unfold rest5
      by_cases h1 : (chk l4).1 = 0
      · rw [if_pos h1, if_pos h1]
        by_cases h2 : 1 ≤ l5.length ∧ l5.length ≤ 32
        · rw [if_pos (by simp; omega), if_pos h2]
          cases anyf (badn l4.length l5) l5.length 0 with
          | true => rfl
          | false =>
            simp only [Bool.false_eq_true, if_false]
            by_cases h3 : 1 ≤ l6.length ∧ l6.length ≤ 16
            · rw [if_pos (by simp; omega), if_pos h3]
              split <;> rfl
            · rw [if_neg (by simp; omega), if_neg h3]
        · rw [if_neg (by simp; omega), if_neg h2]
      · rw [if_neg h1, if_neg h1]
  unfold rules_Check.f chk5
  rw [within_int, within_int, within_int, within_int, Option.bind_some, Option.bind_some, Option.bind_some, Option.bind_some, hj, hj]
  by_cases g0 : 1 ≤ a0 ∧ a0 ≤ 4
  · rw [if_pos (by simp; omega)]
    by_cases g1 : 0 ≤ a1 ∧ a1 ≤ 16
    · rw [if_pos (by simp; omega)]
      by_cases g2 : 1 ≤ a2 ∧ a2 ≤ 1000
      · rw [if_pos (by simp; omega)]
        by_cases g3 : 1 ≤ a3 ∧ a3 ≤ 64
        · rw [if_pos (show _ ∧ _ by omega), if_neg (by simp; omega)]
        · rw [if_neg (show ¬ (_ ∧ _) by omega), if_pos (by simp; omega)]
      · rw [if_neg (by simp; omega), if_neg (show ¬ (_ ∧ _) by omega), if_pos rfl]
    · rw [if_neg (by simp; omega), if_neg (show ¬ (_ ∧ _) by omega), if_pos rfl]
  · rw [if_neg (by simp; omega), if_neg (show ¬ (_ ∧ _) by omega), if_pos rfl]
theorem few5 (a0 a1 a2 a3 : Int) (l4 : List S176) (l5 : List Int) (l6 : List S145) : ∃ m4 m5 m6, stopgatelaw05_few.f a0 a1 a2 a3 l4 l5 l6 = some (a0, a1, a2, a3, m4, m5, m6) ∧ m4.length ≤ 40 ∧ m5.length ≤ 40 ∧ m6.length ≤ 20 := by
  have hm : ∀ (n : Nat) (c : Int), 0 ≤ c → 0 ≤ mn (n : Int) c ∧ mn (n : Int) c ≤ n ∧ mn (n : Int) c ≤ c := by
    intro n c hc
    unfold mn; split <;> omega
  have e4 := hm l4.length 40 (by omega)
  have e5 := hm l5.length 40 (by omega)
  have e6 := hm l6.length 20 (by omega)
  refine ⟨l4.take (mn (l4.length : Int) 40).toNat, l5.take (mn (l5.length : Int) 40).toNat, l6.take (mn (l6.length : Int) 20).toNat, ?_, ?_, ?_, ?_⟩
  · unfold stopgatelaw05_few.f
    rw [if_pos e4.1, if_pos e4.2.1, if_pos e5.1, if_pos e5.2.1, if_pos e6.1, if_pos e6.2.1]
  · rw [List.length_take]; omega
  · rw [List.length_take]; omega
  · rw [List.length_take]; omega
theorem told5 : stopgatelaw05_told.f 20 = some true := by decide +kernel
theorem told_k {k : Nat} (hk : 20 ≤ k) : stopgatelaw05_told.f k = some true := at_rounds (g := fun k => stopgatelaw05_told.f k) (fun k => stopgatelaw05_told.mono k) hk told5
theorem rsyms_l1 (a0 a1 a2 a3 : Int) (l4 : List S176) (l5 : List Int) (u : List S86) (hu : u.length ≤ 1000) : ∀ d (n k : Nat), n + d = u.length → d < k → stopgateref05_Check.l1 k (n : Int) a0 a1 a2 a3 l4 l5 u = some (if anyf (fun n => !good (rd_T86 u n)) d n = true then 1 else 0) := by
  intro d
  induction d with
  | zero =>
    intro n k hn hk
    obtain ⟨k, rfl⟩ := pred hk
    unfold stopgateref05_Check.l1
    rw [if_neg (by omega)]; rfl
  | succ d ih =>
    intro n k hn hk
    obtain ⟨k, rfl⟩ := pred hk
    unfold stopgateref05_Check.l1 anyf
    rw [if_pos (by omega), if_pos (by omega), w64 (by omega), ih (n + 1) k (by omega) (by omega), rright_f, Option.bind_some]
    generalize rd_T86 u n = x
    unfold good
    by_cases h1 : x.f0 < 1
    · simp [h1, show ¬ 1 ≤ x.f0 by omega]
    · by_cases h2 : x.f0 > 1099511627776
      · simp [h1, h2, show ¬ x.f0 ≤ 1099511627776 by omega]
      · by_cases h3 : x.f1 < 1
        · simp [h1, h2, h3, show ¬ 1 ≤ x.f1 by omega]
        · by_cases h4 : x.f1 > 1099511627776
          · simp [h1, h2, h3, h4, show ¬ x.f1 ≤ 1099511627776 by omega]
          · by_cases h5 : x.f2 < 0
            · simp [h1, h2, h3, h4, h5, show ¬ 0 ≤ x.f2 by omega]
            · cases h6 : frac x.f3 with
              | true => simp [h1, h2, h3, h4, h5, show 1 ≤ x.f0 by omega, show x.f0 ≤ 1099511627776 by omega, show 1 ≤ x.f1 by omega, show x.f1 ≤ 1099511627776 by omega, show 0 ≤ x.f2 by omega]
              | false => simp [h1, h2, h3, h4, h5]
def rest6 (l6 : List S86) : Int := if 1 ≤ l6.length ∧ l6.length ≤ 16 then (if anyf (fun n => !good (rd_T86 l6 n)) l6.length 0 = true then 1 else 0) else 4
theorem raccs_l0 (a0 a1 a2 a3 : Int) (l4 : List S176) (u : List Int) (l6 : List S86) (hu : u.length ≤ 1000) (h6 : l6.length ≤ 1000) : ∀ d (n k : Nat), n + d = u.length → d + l6.length + 2 < k → stopgateref05_Check.l0 k (n : Int) a0 a1 a2 a3 l4 u l6 = some (if anyf (badn l4.length u) d n = true then 18 else rest6 l6) := by
  intro d
  induction d with
  | zero =>
    intro n k hn hk
    obtain ⟨k, rfl⟩ := pred hk
    obtain ⟨k, rfl⟩ := pred (show 0 < k by omega)
    have hj : ∀ b, stopgateref05_Check.j3 (k + 1) b a0 a1 a2 a3 l4 u l6 = some (if b = true then 4 else if anyf (fun n => !good (rd_T86 l6 n)) l6.length 0 = true then 1 else 0) := by
      intro b
      rw [stopgateref05_Check.j3]
      cases b with
      | true => rfl
      | false =>
        rw [if_neg (by simp), if_neg (by simp)]
        exact rsyms_l1 a0 a1 a2 a3 l4 u l6 h6 l6.length 0 k (by omega) (by omega)
    unfold stopgateref05_Check.l0
    rw [if_neg (by omega), hj, hj, show anyf (badn l4.length u) 0 n = false from rfl, if_neg (show ¬ (false = true) by simp)]
    unfold rest6
    by_cases h1 : (l6.length : Int) < 1
    · have hA : ¬ (1 ≤ l6.length ∧ l6.length ≤ 16) := by omega
      rw [if_pos h1, if_neg hA, if_pos rfl]
    · rw [if_neg h1]
      by_cases h2 : (l6.length : Int) > 16
      · have hA : ¬ (1 ≤ l6.length ∧ l6.length ≤ 16) := by omega
        rw [decide_eq_true h2, if_neg hA, if_pos rfl]
      · have hA : 1 ≤ l6.length ∧ l6.length ≤ 16 := by omega
        rw [decide_eq_false h2, if_pos hA, if_neg (by simp)]
  | succ d ih =>
    intro n k hn hk
    obtain ⟨k, rfl⟩ := pred hk
    unfold stopgateref05_Check.l0 anyf
    rw [if_pos (by omega), if_pos (by omega), w64 (by omega), ih (n + 1) k (by omega) (by omega)]
    unfold badn
    by_cases h1 : rd u n < 0
    · simp [h1, show ¬ 0 ≤ rd u n by omega]
    · by_cases h2 : rd u n ≥ (l4.length : Int)
      · simp [h1, h2, show ¬ rd u n < (l4.length : Int) by omega]
      · simp [h1, h2, show 0 ≤ rd u n by omega, show rd u n < (l4.length : Int) by omega]
theorem rcheck5 (a0 a1 a2 a3 : Int) (l4 : List S176) (l5 : List Int) (l6 : List S86) (h5 : l5.length ≤ 1000) (h6 : l6.length ≤ 1000) {k : Nat} (hk : 2500 ≤ k) : stopgateref05_Check.f k a0 a1 a2 a3 l4 l5 l6 = some (chk5 a0 a1 a2 a3 l4 l5 l6) := by
  obtain ⟨k, rfl⟩ := pred (show 0 < k by omega)
  obtain ⟨k, rfl⟩ := pred (show 0 < k by omega)
  have hj1 : ∀ b, stopgateref05_Check.j1 (k + 1) b a0 a1 a2 a3 l4 l5 l6 = some (if b = true then 3 else if anyf (badn l4.length l5) l5.length 0 = true then 18 else rest6 l6) := by
    intro b
    rw [stopgateref05_Check.j1]
    cases b with
    | true => rfl
    | false =>
      rw [if_neg (by simp), if_neg (by simp)]
      exact raccs_l0 a0 a1 a2 a3 l4 l5 l6 h5 h6 l5.length 0 k (by omega) (by omega)
  have hj : ∀ b, stopgateref05_Check.j0 (k + 1 + 1) b a0 a1 a2 a3 l4 l5 l6 = some (if b = true then 1 else rest5 l4 l5 l6) := by
    intro b
    rw [stopgateref05_Check.j0]
    cases b with
    | true => rfl
    | false =>
      simp only [Bool.false_eq_true, if_false]
      rw [ref_check l4 (by omega), Option.bind_some, hj1, hj1]
      unfold rest5
      by_cases h1 : (chk l4).1 = 0
      · rw [if_pos h1, if_pos h1]
        by_cases h2 : (l5.length : Int) < 1
        · have hA : ¬ (1 ≤ l5.length ∧ l5.length ≤ 32) := by omega
          rw [if_pos h2, if_neg hA, if_pos rfl]
        · rw [if_neg h2]
          by_cases h3 : (l5.length : Int) > 32
          · have hA : ¬ (1 ≤ l5.length ∧ l5.length ≤ 32) := by omega
            rw [decide_eq_true h3, if_neg hA, if_pos rfl]
          · have hA : 1 ≤ l5.length ∧ l5.length ≤ 32 := by omega
            rw [decide_eq_false h3, if_pos hA, if_neg (by simp)]
            rfl
      · rw [if_neg h1, if_neg h1]
  unfold stopgateref05_Check.f chk5
  rw [hj, hj]
  by_cases g0 : a0 < 1
  · rw [if_pos g0, if_pos rfl, if_neg (show ¬ (_ ∧ _) by omega)]
  rw [if_neg g0]
  by_cases g1 : a0 > 4
  · rw [if_pos g1, if_pos rfl, if_neg (show ¬ (_ ∧ _) by omega)]
  rw [if_neg g1]
  by_cases g2 : a1 < 0
  · rw [if_pos g2, if_pos rfl, if_neg (show ¬ (_ ∧ _) by omega)]
  rw [if_neg g2]
  by_cases g3 : a1 > 16
  · rw [if_pos g3, if_pos rfl, if_neg (show ¬ (_ ∧ _) by omega)]
  rw [if_neg g3]
  by_cases g4 : a2 < 1
  · rw [if_pos g4, if_pos rfl, if_neg (show ¬ (_ ∧ _) by omega)]
  rw [if_neg g4]
  by_cases g5 : a2 > 1000
  · rw [if_pos g5, if_pos rfl, if_neg (show ¬ (_ ∧ _) by omega)]
  rw [if_neg g5]
  by_cases g6 : a3 < 1
  · rw [if_pos g6, if_pos rfl, if_neg (show ¬ (_ ∧ _) by omega)]
  rw [if_neg g6]
  by_cases g7 : a3 > 64
  · rw [if_pos (by simp; omega), if_neg (show ¬ (_ ∧ _) by omega)]
  · rw [if_neg (by simp; omega), if_pos (show _ ∧ _ by omega)]
theorem RulesChecks : stopgatelaw05_RulesChecks.Pure := by
  intro a0 a1 a2 a3 l4 l5 l6 _ _ _ _ _ _ _
  refine ⟨3000, ?_⟩
  unfold stopgatelaw05_RulesChecks.f
  obtain ⟨m4, m5, m6, hf, h4, h5, h6⟩ := few5 a0 a1 a2 a3 l4 l5 l6
  rw [hf, Option.bind_some]
  simp only []
  rw [ref5 a0 a1 a2 a3 m4 m5 m6 (by omega) (by omega), Option.bind_some, told_k (by omega), Option.bind_some, if_pos rfl]
  simp only []
  rw [lto5 a0 a1 a2 a3 m4 m5 _ (by omega) (by omega) (by rw [List.length_map]; omega) (by omega), Option.bind_some]
  simp only []
  rw [check5 a0 a1 a2 a3 m4 m5 _ (by omega) (by omega) (by rw [List.length_map]; omega) (by omega), Option.bind_some, rcheck5 a0 a1 a2 a3 m4 m5 _ (by omega) (by rw [List.length_map]; omega) (by omega), Option.bind_some]
  simp
end Go.Proofs.Ytgikjgekdeaneaa.Pure
