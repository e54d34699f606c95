/- The credit, over the printed functions alone: what was reserved and released is as it was. No condition. -/
import Derived.Test.YtnodcekkbbmfnaaCrP
namespace Go.Proofs.Ytnodcekkbbmfnaa.Pure
open Go.RowKit Go.Proofs.Ytnodcekkbbmfnaa.QCrB Go.Proofs.YtnodcekkbbmfnaaW.PrintWords Go.Proofs.YtnodcekkbbmfnaaW.PrintLast Go.Proofs.YtnodcekkbbmfnaaW.PrintMore
set_option linter.unusedVariables false
set_option linter.unusedSimpArgs false
set_option linter.unusedSectionVars false
theorem resv_ok (l : List S68) (u : List Int) (amt : Int) : ∀ (p : List Int) (i : Nat) (w : List Int), (∀ n ∈ p, rd u n + amt ≤ cap l n) → (resv l u amt p i w).2 = (0, -1) := by
  intro p
  induction p with
  | nil => intro i w _; rfl
  | cons n p ih =>
    intro i w hp
    rw [resv, if_pos (hp n (by simp))]
    exact ih _ _ (fun x hx => hp x (by simp [hx]))
/-- So much on each of a path, nothing elsewhere. -/
def layp (t : List S68) (p : List Int) (s : Int) : List Int := (List.range t.length).map fun n : Nat => if (n : Int) ∈ p then s else 0
theorem layp_len (t : List S68) (p : List Int) (s : Int) : (layp t p s).length = t.length := by simp [layp]
theorem layp_rd (t : List S68) (p : List Int) (s : Int) (n : Nat) (h : n < t.length) : rd (layp t p s) n = if (n : Int) ∈ p then s else 0 := by
  rw [rd_nat _ n (by rw [layp_len]; exact h)]
  simp [layp]
theorem list_rd {a b : List Int} (hl : a.length = b.length) (h : ∀ n : Nat, n < a.length → rd a n = rd b n) : a = b := by
  refine List.ext_getElem hl fun n h1 h2 => ?_
  have := h n h1
  rwa [rd_nat a n h1, rd_nat b n h2] at this
theorem layp_zero (t : List S68) (p : List Int) : layp t p 0 = List.replicate t.length 0 := by
  refine list_rd (by simp [layp]) fun n hn => ?_
  rw [layp_len] at hn
  rw [layp_rd t p 0 n hn]
  simp [rd, hn]
theorem addp_len (u : List Int) (amt : Int) : ∀ (p w : List Int), (addp u amt p w).length = w.length := by
  intro p
  induction p with
  | nil => intro w; rfl
  | cons n p ih => intro w; rw [addp, ih, List.length_set]
theorem addp_rd (t : List S68) (u : List Int) (amt : Int) : ∀ (p w : List Int), (∀ x ∈ p, 0 ≤ x ∧ x < t.length) → p.Nodup → w.length = t.length → ∀ m : Nat, m < t.length → rd (addp u amt p w) m = if (m : Int) ∈ p then rd u m + amt else rd w m := by
  intro p
  induction p with
  | nil => intro w _ _ _ m _; simp [addp]
  | cons n p ih =>
    intro w hp hnd hw m hm
    have hn := hp n (by simp)
    have hnd2 := List.nodup_cons.1 hnd
    rw [addp, ih _ (fun x hx => hp x (by simp [hx])) hnd2.2 (by rw [List.length_set]; exact hw) m hm, rd_set w n hn.1 (by rw [hw]; exact hn.2)]
    by_cases h1 : (m : Int) ∈ p
    · rw [if_pos h1, if_pos (by simp [h1])]
    · rw [if_neg h1]
      by_cases h2 : (m : Int) = n
      · rw [if_pos h2, if_pos (by simp [h2]), h2]
      · rw [if_neg h2, if_neg (by simp [h1, h2])]
theorem relv_rd (t : List S68) (u : List Int) (amt : Int) : ∀ (p w : List Int), (∀ x ∈ p, 0 ≤ x ∧ x < t.length) → p.Nodup → w.length = t.length → (∀ x ∈ p, amt ≤ rd u x) →
    (relv u amt p w).2 = true ∧ (relv u amt p w).1.length = t.length ∧ ∀ m : Nat, m < t.length → rd (relv u amt p w).1 m = if (m : Int) ∈ p then rd u m - amt else rd w m := by
  intro p
  induction p with
  | nil => intro w _ _ hw _; exact ⟨rfl, hw, fun m _ => by simp [relv]⟩
  | cons n p ih =>
    intro w hp hnd hw hx
    have hn := hp n (by simp)
    have hnd2 := List.nodup_cons.1 hnd
    have hxn := hx n (by simp)
    rw [relv, if_neg (by omega)]
    obtain ⟨h1, h2, h3⟩ := ih (w.set n.toNat (rd u n - amt)) (fun x hx => hp x (by simp [hx])) hnd2.2 (by rw [List.length_set]; exact hw) (fun x hxm => hx x (by simp [hxm]))
    refine ⟨h1, h2, fun m hm => ?_⟩
    rw [h3 m hm, rd_set w n hn.1 (by rw [hw]; exact hn.2)]
    by_cases h4 : (m : Int) ∈ p
    · rw [if_pos h4, if_pos (by simp [h4])]
    · rw [if_neg h4]
      by_cases h5 : (m : Int) = n
      · rw [if_pos h5, if_pos (by simp [h5]), h5]
      · rw [if_neg h5, if_neg (by simp [h4, h5])]
theorem rd_at (u : List Int) (x : Int) (h0 : 0 ≤ x) : rd u x = rd u ((x.toNat : Nat) : Int) := by rw [show ((x.toNat : Nat) : Int) = x by omega]
theorem layp_on (t : List S68) (p : List Int) (s : Int) (x : Int) (hx : x ∈ p) (h0 : 0 ≤ x) (h1 : x < t.length) : rd (layp t p s) x = s := by
  rw [rd_at _ x h0, layp_rd t p s _ (by omega), if_pos (by rw [show ((x.toNat : Nat) : Int) = x by omega]; exact hx)]
section
variable {t : List S68} {s k : Int} (h0 : 0 ≤ k) (h1 : k < t.length) (hg : Good t (layp t (clm t 3 k).1 s))
include h0 h1 hg
theorem head_in : k ∈ (clm t 3 k).1 := by rw [clm, if_pos ⟨h0, h1⟩]; simp
theorem s_in : 0 ≤ s ∧ s ≤ 4611686018427387904 := by
  have := hg.inv.at k h0 h1
  rwa [layp_on t _ s k (head_in h0 h1 hg) h0 h1] at this
/-- What is reserved once more. -/
theorem back_yes (amt : Int) (hc : (resF t (layp t (clm t 3 k).1 s) k amt).2.1 = 0) : 0 ≤ amt ∧ (resF t (layp t (clm t 3 k).1 s) k amt) = (layp t (clm t 3 k).1 (s + amt), 0, -1) ∧ ∀ x ∈ (clm t 3 k).1, s + amt ≤ cap t x := by
  have hne := clm_ne t 2 k ⟨h0, h1⟩
  have hmem := clm_mem t 3 k
  unfold resF at hc ⊢
  rw [if_neg hne] at hc ⊢
  by_cases h2 : amt < 0
  · rw [if_pos h2] at hc; simp at hc
  · rw [if_neg h2, resv_ff] at hc
    rw [if_neg h2, resv_ff]
    cases hf : ff t (layp t (clm t 3 k).1 s) amt (clm t 3 k).1 0 with
    | some q =>
      exfalso
      rw [hf] at hc
      have : ∀ (p : List Int) (i : Nat), ff t (layp t (clm t 3 k).1 s) amt p i = some q → q.1 ≠ 0 := by
        intro p
        induction p with
        | nil => intro i h; cases h
        | cons n p ih =>
          intro i h
          rw [ff] at h
          split at h
          · exact ih _ h
          · cases h; simp; omega
      exact this _ _ hf hc
    | none =>
      have hok := ff_none _ _ hf
      refine ⟨by omega, ?_, fun x hx => ?_⟩
      · show (addp _ _ _ _, (0 : Int), (-1 : Int)) = _
        congr 1
        refine list_rd (by rw [addp_len, layp_len, layp_len]) fun n hn => ?_
        rw [addp_len, layp_len] at hn
        rw [addp_rd t _ amt _ _ hmem (clm_nodup hg.val 3 k) (layp_len _ _ _) n hn, layp_rd _ _ _ n hn, layp_rd _ _ _ n hn]
        split <;> rfl
      · have := hok x hx
        rwa [layp_on t _ s x hx (hmem x hx).1 (hmem x hx).2] at this
theorem back_no (amt : Int) (hc : (resF t (layp t (clm t 3 k).1 s) k amt).2.1 ≠ 0) : (resF t (layp t (clm t 3 k).1 s) k amt).1 = layp t (clm t 3 k).1 s := by
  have hne := clm_ne t 2 k ⟨h0, h1⟩
  unfold resF at hc ⊢
  rw [if_neg hne] at hc ⊢
  by_cases h2 : amt < 0
  · rw [if_pos h2]
  · rw [if_neg h2, resv_ff] at hc
    rw [if_neg h2, resv_ff]
    cases hf : ff t (layp t (clm t 3 k).1 s) amt (clm t 3 k).1 0 with
    | some q => rfl
    | none => rw [hf] at hc; exact absurd rfl hc
theorem back_rel (amt : Int) (ha : 0 ≤ amt) (hs : amt ≤ s) : relF t (layp t (clm t 3 k).1 s) k amt = (layp t (clm t 3 k).1 (s - amt), true) := by
  have hne := clm_ne t 2 k ⟨h0, h1⟩
  have hmem := clm_mem t 3 k
  unfold relF
  rw [if_neg (by rintro (h | h); exact hne h; omega)]
  obtain ⟨e1, e2, e3⟩ := relv_rd t (layp t (clm t 3 k).1 s) amt _ (layp t (clm t 3 k).1 s) hmem (clm_nodup hg.val 3 k) (layp_len _ _ _) (fun x hx => by rw [layp_on t _ s x hx (hmem x hx).1 (hmem x hx).2]; exact hs)
  refine Prod.ext ?_ e1
  refine list_rd (by rw [e2, layp_len]) fun n hn => ?_
  rw [e2] at hn
  rw [e3 n hn, layp_rd _ _ _ n hn, layp_rd _ _ _ n hn]
  split <;> rfl
end
theorem clm_congr {t t2 : List S68} (hl : t2.length = t.length) (hp : ∀ x, 0 ≤ x → par t2 x = par t x) : ∀ d n, clm t2 d n = clm t d n := by
  intro d
  induction d with
  | zero => intro n; simp [clm, hl]
  | succ d ih =>
    intro n
    rw [clm, clm, hl]
    by_cases h : 0 ≤ n ∧ n < (t.length : Int)
    · rw [if_pos h, if_pos h, hp n h.1, ih]
    · rw [if_neg h, if_neg h]
/-- A tree with another cap. -/
def low (t : List S68) (k most : Int) : List S68 := t.set k.toNat ⟨par t k, most⟩
section
variable {t : List S68} {k most : Int} (h0 : 0 ≤ k) (h1 : k < t.length)
include h0 h1
theorem low_lim (hm0 : 0 ≤ most) (hm1 : most ≤ 4611686018427387904) : limF t k most = (low t k most, 0) := by
  unfold limF
  rw [if_neg (by omega), if_neg (by omega)]
  rfl
theorem low_len : (low t k most).length = t.length := by unfold low; rw [List.length_set]
theorem low_rd (m : Int) (hm : 0 ≤ m) : rd_T68 (low t k most) m = if m = k then ⟨par t k, most⟩ else rd_T68 t m := by
  have := rd68_set t k h0 h1 ⟨par t k, most⟩ m.toNat
  rw [show ((m.toNat : Nat) : Int) = m by omega] at this
  exact this
theorem low_par (m : Int) (hm : 0 ≤ m) : par (low t k most) m = par t m := by
  unfold par
  rw [low_rd h0 h1 m hm]
  split
  · rename_i e; rw [e]; rfl
  · rfl
theorem low_clm (d : Nat) (n : Int) : clm (low t k most) d n = clm t d n := clm_congr (low_len h0 h1) (low_par h0 h1) d n
theorem low_layp (p : List Int) (s : Int) : layp (low t k most) p s = layp t p s := by unfold layp; rw [low_len h0 h1]
theorem low_cap (m : Int) (hm : 0 ≤ m) (hle : most ≤ cap t k) : cap (low t k most) m ≤ cap t m := by
  unfold cap
  rw [low_rd h0 h1 m hm]
  split
  · rename_i e; rw [e]; exact hle
  · exact Int.le_refl _
theorem low_back : low (low t k most) k (cap t k) = t := by
  unfold low
  have e : par (t.set k.toNat ⟨par t k, most⟩) k = par t k := low_par h0 h1 k h0
  rw [List.set_set, e]
  refine List.ext_getElem (by rw [List.length_set]) fun n h2 h3 => ?_
  rw [List.getElem_set]
  split
  · rename_i h
    have : rd_T68 t k = t[n] := by
      have h4 := rd68_nat t n h3
      rwa [show ((n : Nat) : Int) = k by omega] at h4
    show (⟨(rd_T68 t k).f0, (rd_T68 t k).f1⟩ : S68) = _
    rw [this]
  · rfl
/-- What a lower cap lets through, a greater one does. -/
theorem low_res {s : Int} (hg : Good t (layp t (clm t 3 k).1 s)) (hg2 : Good (low t k most) (layp t (clm t 3 k).1 s)) (hle : most ≤ cap t k) (amt : Int) (hc : (resF (low t k most) (layp t (clm t 3 k).1 s) k amt).2.1 = 0) :
    (resF t (layp t (clm t 3 k).1 s) k amt).2.1 = 0 := by
  have e : layp (low t k most) (clm (low t k most) 3 k).1 s = layp t (clm t 3 k).1 s := by rw [low_clm h0 h1, low_layp h0 h1]
  obtain ⟨h2, _, h4⟩ := back_yes (t := low t k most) (s := s) h0 (by rw [low_len h0 h1]; exact h1) (by rw [e]; exact hg2) amt (by rw [e]; exact hc)
  rw [low_clm h0 h1] at h4
  have hne := clm_ne t 2 k ⟨h0, h1⟩
  have hmem := clm_mem t 3 k
  unfold resF
  rw [if_neg hne, if_neg (by omega)]
  have := resv_ok t (layp t (clm t 3 k).1 s) amt (clm t 3 k).1 0 (layp t (clm t 3 k).1 s) (fun n hn => by
    rw [layp_on t _ s n hn (hmem n hn).1 (hmem n hn).2]
    have h5 := h4 n hn
    have h6 := low_cap (most := most) h0 h1 n (hmem n hn).1 hle
    omega)
  rw [this]
end
end Go.Proofs.Ytnodcekkbbmfnaa.Pure
