/- Package tree's two statements, walked to their ends: each returns true, whatever the list and the number. -/
import Derived.WalkLawsBesides
import Derived.Test.YtnodcekkbbmfnaaTree2
namespace Go.Proofs.Ytnodcekkbbmfnaa.Tree
open Go.RowKit Go.Proofs.Ytnodcekkbbmfnaa.K
set_option linter.unusedVariables false

theorem to_n (F : Bl) (A : Option Addr) (n c : Nat) (l : List Node) (w : World) (hn : l.length = n) (hr : Rd kNode w F A l) (hsz : l.length * 16 ≤ 140737488355328) :
    Calls Try.prog 25 #[.slice A n c] w fun e w' => ∃ v, e = .returned v ∧ Own kNode 43 w' w.heap.size (fun _ => False) v l ∧ Below w.heap.size w w' := by
  subst hn; exact to_any F A c l w hr hsz
theorem rcheck_n (F : Bl) (A : Option Addr) (n c : Nat) (l : List Node) (w : World) (hn : l.length = n) (hr : Rd kNode w F A l) :
   Calls Try.prog 26 #[.slice A n c] w fun e w' => e = .returned (.tuple #[.int .i64 (checkF l).1, .int .i64 (checkF l).2]) ∧ Below w.heap.size w w' := by
  subst hn; exact rcheck_any F A c l w hr

set_option maxRecDepth 100000 in
set_option maxHeartbeats 3000000 in
theorem checks_any (A : Option Addr) (c : Nat) (l : List Node) (w : World) (hr : Rd kNode w (fun k => k < w.heap.size) A l) (hc : l.length ≤ c) :
    Calls Try.prog 6 #[.slice A l.length c] w fun e w' => e = .returned (.bool true) ∧ Below w.heap.size w w' := by
  have HR := Lib.hid hr
  clear hr
  have hl := HR.out.len
  have hm : ∃ (m : List Node), m.length = min l.length 40 ∧ Rd kNode w (fun k => k < w.heap.size) A m := ⟨l.take 40, by rw [List.length_take]; omega, HR.out.take 40⟩
  obtain ⟨m, hm1, hm2⟩ := hm
  have HM1 := Lib.hid hm1
  have HM2 := Lib.hid hm2
  clear hm1 hm2
  go_enter Try.func6, Try.ntmps6
  go_wp2_with fail
  all_goals
    refine (to_n (fun k => k < w.heap.size) _ _ _ m _ (by have := HM1.out; omega) HM2.out (by have := HM1.out; omega)).mono ?_
    rintro e w1 ⟨v, rfl, hO, hb⟩
    obtain ⟨A1, c1, rfl, hc1⟩ := hO.slice
    have HO := Lib.hid hO
    have HB1 := Lib.hid hb
    clear hO hb
    go_wp2_with fail
    refine (check_any _ _ _ m _ HO.out.rd.2).mono ?_
    rintro e w2 ⟨rfl, hb⟩
    have HB2 := Lib.hid (HB1.out.trans (hb.mono HB1.out.size))
    clear hb
    go_wp2_with fail
    refine (rcheck_n _ _ _ _ m _ (by have := HM1.out; omega) (HM2.out.move (Same.of_below HB2.out))).mono ?_
    rintro e w3 ⟨rfl, hb⟩
    have HB3 := Lib.hid (HB2.out.trans (hb.mono HB2.out.size))
    clear hb
    go_wp2_with fail
    refine (told_any _).mono ?_
    rintro e w4 ⟨rfl, hb⟩
    have HB4 := Lib.hid (HB3.out.trans (hb.mono HB3.out.size))
    clear hb
    go_wp2
    go_ret
    exact ⟨rfl, HB4.out⟩

end Go.Proofs.Ytnodcekkbbmfnaa.Tree
