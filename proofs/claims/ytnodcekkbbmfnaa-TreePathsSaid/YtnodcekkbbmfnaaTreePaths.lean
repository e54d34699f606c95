/- TreePaths, walked to its end: true, whatever the list and the number. -/
import Derived.WalkLawsBesides
import Derived.Test.YtnodcekkbbmfnaaTreeFine
namespace Go.Proofs.Ytnodcekkbbmfnaa.Tree
open Go.RowKit Go.Proofs.Ytnodcekkbbmfnaa.K
set_option linter.unusedVariables false

set_option maxRecDepth 100000 in
set_option maxHeartbeats 3000000 in
theorem paths_any (A : Option Addr) (c : Nat) (l : List Node) (n : Int) (w : World) (hr : Rd kNode w (fun k => k < w.heap.size) A l) (hc : l.length ≤ c) (hn : -9223372036854775808 ≤ n ∧ n ≤ 9223372036854775807) :
    Calls Try.prog 7 #[.slice A l.length c, .int .i64 n] w fun e w' => e = .returned (.bool true) ∧ Below w.heap.size w w' := by
  have HR := Lib.hid hr
  clear hr
  have hl := HR.out.len
  obtain ⟨hn0, hn1⟩ := hn
  have HF := Lib.hid (fixF_fine l)
  go_enter Try.func7, Try.ntmps7
  go_wp2_with fail
  refine (fix_any _ _ _ _ _ HR.out).mono ?_
  rintro e w1 ⟨v, rfl, ho, hb⟩
  generalize fixF l = m at *
  obtain ⟨A1, c1, rfl, hc1⟩ := ho.slice
  have HM := Lib.hid (ho.rd.2.more (F' := fun k => k < w1.heap.size) (fun k hk => by rcases hk with h | h; exact h.elim; exact h.2))
  have HB1 := Lib.hid hb
  clear ho hb
  go_wp2_with fail
  refine (to_any _ _ _ m _ HM.out (by have := HF.out.2.2; omega)).mono ?_
  rintro e w2 ⟨v, rfl, ho, hb⟩
  obtain ⟨A2, c2, rfl, hc2⟩ := ho.slice
  have HM2 := Lib.hid (ho.rd.2.more (F' := fun k => k < w2.heap.size) (fun k hk => by rcases hk with h | h; exact h.elim; exact h.2))
  have HM1 := Lib.hid (HM.out.move (Same.of_below hb))
  have HS1 := Lib.hid hb.size
  have HB2 := Lib.hid (HB1.out.trans (hb.mono HB1.out.size))
  clear ho hb
  have hk : ∃ k : Int, k = n % 40 := ⟨_, rfl⟩
  obtain ⟨k0, hk⟩ := hk
  have HK := Lib.hid hk
  clear hk
  by_cases h40 : 40 < n
  all_goals
    go_wp2_with fail
    first | rw [← HK.out] | (clear HK k0; obtain ⟨k0, rfl⟩ : ∃ k0, k0 = n := ⟨_, rfl⟩)
    have hpl := pathF_len m k0
    refine (path_any _ _ _ m k0 _ HM2.out).mono ?_
    rintro e w3 ⟨v, rfl, ho, hb⟩
    have HC := Lib.hid (HF.out.1.chain k0)
    obtain ⟨A3, c3, rfl, hc3⟩ := ho.slice
    have HP := Lib.hid (ho.rd.2.more (F' := fun k => k < w3.heap.size) (fun k hk => by rcases hk with h | h; exact h.elim; exact h.2))
    have HN1 := Lib.hid (HM1.out.move (Same.of_below' hb (fun k hk => Nat.lt_of_lt_of_le hk HS1.out)))
    have HN2 := Lib.hid (HM2.out.move (Same.of_below hb))
    have HS3 := Lib.hid hb.size
    have HB3 := Lib.hid (HB2.out.trans (hb.mono HB2.out.size))
    clear ho hb
    generalize hpe : pathF m k0 = p at *
    have HPE := Lib.hid hpe
    clear hpe
    go_wp2_with fail
    refine (told_any _).mono ?_
    rintro e w4 ⟨rfl, hb⟩
    have HB4 := Lib.hid hb
    clear hb
    go_wp2_with fail
    refine (rpath_any _ _ _ m k0 _ (HN1.out.move (Same.of_below' HB4.out (fun k hk => Nat.lt_of_lt_of_le (Nat.lt_of_lt_of_le hk HS1.out) HS3.out)))).mono ?_
    rintro e w5 ⟨v, rfl, ho, hb⟩
    rw [HPE.out] at ho
    obtain ⟨A5, c5, rfl, hc5⟩ := ho.slice
    have HB5 := Lib.hid (HB4.out.trans (hb.mono HB4.out.size))
    have HO5 := Lib.hid ho
    clear ho hb
    go_wp2_with fail
    refine (ints_any _ _ _ _ _ _ p p _ (HP.out.move (Same.of_below HB5.out)) HO5.out.rd.2).mono ?_
    rintro e w6 ⟨rfl, hb⟩
    have HB6 := Lib.hid (HB5.out.trans (hb.mono HB5.out.size))
    clear hb
    rw [show (p == p) = true from beq_iff_eq.2 rfl]
    go_wp2_with fail
    refine (level_any _ _ _ m k0 _ (HN2.out.move (Same.of_below' HB6.out (fun k hk => Nat.lt_of_lt_of_le hk HS3.out)))).mono ?_
    rintro e w7 ⟨rfl, hb⟩
    rw [HPE.out]
    have HB7 := Lib.hid (HB6.out.trans (hb.mono HB6.out.size))
    clear hb
    go_wp2_with fail
    refine (rpath_any _ _ _ m k0 _ (HN1.out.move (Same.of_below' HB7.out (fun k hk => Nat.lt_of_lt_of_le (Nat.lt_of_lt_of_le hk HS1.out) HS3.out)))).mono ?_
    rintro e w8 ⟨v, rfl, ho, hb⟩
    rw [HPE.out] at ho
    obtain ⟨A8, c8, rfl, hc8⟩ := ho.slice
    have HB8 := Lib.hid (HB7.out.trans (hb.mono HB7.out.size))
    clear ho hb
    go_wp2_with fail
    have hpl2 : (p.length : Int) ≤ 3 := hpl
    go_loopg [8] (p.length + 1 : Nat) (fun g v wr => ∃ i : Nat, v = .int .i64 i ∧ Hid (i ≤ p.length ∧ g = p.length + 1 - i) ∧ Hid (Below w3.heap.size w3 wr))
    case atStart => exact ⟨0, rfl, Lib.hid ⟨by omega, rfl⟩, HB8⟩
    case round =>
      obtain ⟨i, rfl, HG, HW⟩ := hrel
      by_cases hlt : i < p.length
      · have hi0 : (i : Int) < p.length := by omega
        obtain ⟨hm0, hm1⟩ := HC.out.mem i hlt
        obtain ⟨pd, rfl, hx⟩ := at_int HP.out i hlt
        have hx := (HW.out.cell (cell_lt hx)).trans hx
        obtain ⟨xd, rfl, hy, hy2⟩ := at_Node HN2.out (iat p i) hm0 hm1
        have hy := (HW.out.cell (cell_lt hy)).trans hy
        clear hy2
        have hs1 : IntKind.i64.wrap ((i : Int) + 1) = (i : Int) + 1 := i64_wrap_in (by omega) (by omega)
        by_cases hn1 : i + 1 < p.length
        · have hn2 : (i : Int) + 1 < p.length := by omega
          have hn2d : decide ((i : Int) + 1 < p.length) = true := decide_eq_true hn2
          obtain ⟨pd2, hpd, hx2⟩ := at_int HP.out (i + 1) hn1
          obtain rfl : pd = pd2 := by injection hpd
          have hx2 := (HW.out.cell (cell_lt hx2)).trans hx2
          rw [show pd.add (i + 1) = ⟨pd.block, pd.off + (i + 1), none⟩ by simp [Addr.add]] at hx2
          have hq : ((nd m (iat p i)).parent != iat p (i + 1)) = false := by rw [HC.out.next i hn1]; simp
          have hq2 : (((i : Int) + 1) == (p.length : Int)) = false := beq_eq_false_iff_ne.2 (by omega)
          go_wp2
          go_quiet (fail)
          go_wp2
          go_roundg (p.length - i)
          case measure => have := HG.out.2; omega
          case rel => exact ⟨i + 1, by go_num, Lib.hid ⟨by omega, by omega⟩, Lib.hid (HW.out.trans (quiet_below _ _ _))⟩
        · have hn2 : ¬ (i : Int) + 1 < p.length := by omega
          have hn2d : decide ((i : Int) + 1 < p.length) = false := decide_eq_false hn2
          have hq : ((nd m (iat p i)).parent != -1) = false := by rw [HC.out.last i (by omega)]; rfl
          have hq2 : (((i : Int) + 1) == (p.length : Int)) = true := beq_iff_eq.2 (by omega)
          go_wp2
          go_quiet (fail)
          go_wp2
          go_roundg (p.length - i)
          case measure => have := HG.out.2; omega
          case rel => exact ⟨i + 1, by go_num, Lib.hid ⟨by omega, by omega⟩, Lib.hid (HW.out.trans (quiet_below _ _ _))⟩
      · have HCK := Lib.hid (HF.out.1.check HF.out.2.1 (by have := HF.out.2.2; omega))
        go_wp2_with fail
        refine (check_any _ _ _ m _ (HN2.out.move (Same.of_below' HW.out (fun k hk => Nat.lt_of_lt_of_le hk HS3.out)))).mono ?_
        rintro e w9 ⟨rfl, hb⟩
        rw [HCK.out]
        have HB9 := Lib.hid (HB3.out.trans ((HW.out.trans (hb.mono HW.out.size)).mono HB3.out.size))
        clear hb
        go_wp2
        go_ret
        exact ⟨rfl, HB9.out⟩
end Go.Proofs.Ytnodcekkbbmfnaa.Tree
