/- The law CellsHolds walked, by hand. -/
import Derived.Test.YtgikjgekdeaneaaCellsT
namespace Go.Proofs.Ytgikjgekdeaneaa.Cells
open Go.RowKit Go.Proofs.Ytgikjgekdeaneaa.QCellsNews Go.Proofs.YtgikjgekdeaneaaW.PrintWords Go.Proofs.YtgikjgekdeaneaaW.PrintLast Go.Proofs.YtgikjgekdeaneaaW.PrintMore
set_option linter.unusedVariables false
set_option linter.unusedSimpArgs false
set_option maxHeartbeats 8000000 in
set_option maxRecDepth 100000 in
theorem holds (A0 : Option Addr) (c0 : Nat) (l0 : List Int) (w : World) (hr0 : Kd.C (Kd.int .i64) w A0 l0.length l0) (hc0 : l0.length ≤ c0) : Calls Try.prog 7 #[.slice A0 l0.length c0] w fun e w' => e = .returned (.bool true) ∧ Below w.heap.size w w' := by
 have HR := Aside0.mk hr0
 clear hr0
 go_enter Try.func7, Try.ntmps7
 go_wp2_with (first | (go_at_call 24; refine (new_11 _).mono ?_; rintro e w1 ⟨g, gw, gl, rfl, d0⟩) | (go_at_call 26; refine (told _).mono ?_; rintro e w2 ⟨rfl, hb⟩))
 have d1 : Did w.heap.size 137 w w2 g gw gl [0] [-1] 0 := ⟨d0.1.below hb, below_step d0.2 hb⟩
 clear d0 hb
 go_loopg [5, 6] (l0.length + 1) (fun kq v5 v6 w' => ∃ (h t i : Int), v5 = .int .i64 h ∧ v6 = .int .i64 i ∧ Aside0 ((l0.length : Int) + 1 ≤ kq + i ∧ 0 ≤ i ∧ i ≤ l0.length ∧ i ≤ 200 ∧ -1 ≤ h ∧ h ≤ 4) ∧ Aside0 (Did w.heap.size 137 w w' g gw gl [0] [h] t))
 case atStart => exact ⟨-1, 0, 0, rfl, rfl, ⟨by omega⟩, ⟨by (repeat apply Did.drewN); exact d1⟩⟩
 case round =>
  obtain ⟨h, t, i, rfl, rfl, HM, HD⟩ := hrel
  have hm := HM.out
  by_cases c1 : i < l0.length
  · have c1b := decide_eq_true c1
    by_cases c2 : i < 200
    · have c2b := decide_eq_true c2
      have p0 : 0 ≤ i := hm.2.1
      obtain ⟨ad, e1, hx⟩ := Kd.at_int (Kd.C_below HR.out HD.out.2) i p0 c1
      cases e1
      have hwho : 0 ≤ (wrap64 (Int.tmod (IntKind.u64.wrap (rd l0 i)) 5)) ∧ (wrap64 (Int.tmod (IntKind.u64.wrap (rd l0 i)) 5)) < 5 := by
        have hu : 0 ≤ IntKind.u64.wrap (rd l0 i) := by rw [show IntKind.u64.wrap (rd l0 i) = (rd l0 i) % 18446744073709551616 from rfl]; omega
        have h2 := Int.tmod_nonneg 5 hu
        have h3 := Int.tmod_lt_of_pos (IntKind.u64.wrap (rd l0 i)) (show (0 : Int) < 5 by omega)
        unfold wrap64; omega
      replace p0 := eq_true p0
      have q0 := eq_true c1
      have e1 : wrap64 (i + 1) = i + 1 := by unfold wrap64; omega
      by_cases c3 : h = (wrap64 (Int.tmod (IntKind.u64.wrap (rd l0 i)) 5))
      · have c3b : (h == (wrap64 (Int.tmod (IntKind.u64.wrap (rd l0 i)) 5))) = true := beq_iff_eq.mpr c3
        go_wp2_with (first | (go_at_call 36; refine (free_yes (wrap64 (Int.tmod (IntKind.u64.wrap (rd l0 i)) 5)) 0 _ HD.out.1 ⟨by omega, by decide, by simp⟩ (by show h = _; exact c3)).mono ?_; rintro e w2 ⟨rfl, d2⟩) | (go_at_call 31; refine (holder0 (-1) _ d2.1).mono ?_; rintro e w3 ⟨rfl, ⟨n3, rfl⟩⟩))
        go_roundg (((l0.length : Int) - i).toNat)
        case measure => omega
        case rel => exact ⟨-1, _, i + 1, rfl, rfl, ⟨by omega⟩, ⟨by (repeat apply Did.drewN); exact HD.out.trans d2⟩⟩
      · have c3b : (h == (wrap64 (Int.tmod (IntKind.u64.wrap (rd l0 i)) 5))) = false := beq_eq_false_iff_ne.mpr c3
        by_cases c4 : h = -1
        · subst c4
          go_wp2_with (first | (go_at_call 36; refine (free_no (wrap64 (Int.tmod (IntKind.u64.wrap (rd l0 i)) 5)) 0 _ HD.out.1 ⟨by omega, by decide, by simp⟩ (by show ¬ (-1 : Int) = _; exact c3)).mono ?_; rintro e w2 ⟨rfl, d2⟩) | (go_at_call 35; refine (take_yes (wrap64 (Int.tmod (IntKind.u64.wrap (rd l0 i)) 5)) 0 _ d2.1 ⟨by omega, by decide, by simp⟩ (by rfl)).mono ?_; rintro e w3 ⟨rfl, d3⟩) | (go_at_call 31; refine (holder0 (wrap64 (Int.tmod (IntKind.u64.wrap (rd l0 i)) 5)) _ d3.1).mono ?_; rintro e w4 ⟨rfl, ⟨n4, rfl⟩⟩))
          go_roundg (((l0.length : Int) - i).toNat)
          case measure => omega
          case rel => exact ⟨(wrap64 (Int.tmod (IntKind.u64.wrap (rd l0 i)) 5)), _, i + 1, rfl, rfl, ⟨by omega⟩, ⟨by (repeat apply Did.drewN); exact (HD.out.trans d2).trans d3⟩⟩
        · have c4b : (h == -1) = false := beq_eq_false_iff_ne.mpr c4
          go_wp2_with (first | (go_at_call 36; refine (free_no (wrap64 (Int.tmod (IntKind.u64.wrap (rd l0 i)) 5)) 0 _ HD.out.1 ⟨by omega, by decide, by simp⟩ (by show ¬ h = _; exact c3)).mono ?_; rintro e w2 ⟨rfl, d2⟩) | (go_at_call 35; refine (take_no (wrap64 (Int.tmod (IntKind.u64.wrap (rd l0 i)) 5)) 0 _ d2.1 ⟨by omega, by decide, by simp⟩ (by show ¬ h = _; exact c4)).mono ?_; rintro e w3 ⟨rfl, d3⟩) | (go_at_call 31; refine (holder0 h _ d3.1).mono ?_; rintro e w4 ⟨rfl, ⟨n4, rfl⟩⟩))
          go_roundg (((l0.length : Int) - i).toNat)
          case measure => omega
          case rel => exact ⟨h, _, i + 1, rfl, rfl, ⟨by omega⟩, ⟨by (repeat apply Did.drewN); exact (HD.out.trans d2).trans d3⟩⟩
    · have c2b := decide_eq_false c2
      go_wp2
      go_ret
      exact ⟨rfl, by (repeat apply pw_below_drewN); exact HD.out.2⟩
  · have c1b := decide_eq_false c1
    go_wp2
    go_ret
    exact ⟨rfl, by (repeat apply pw_below_drewN); exact HD.out.2⟩
end Go.Proofs.Ytgikjgekdeaneaa.Cells
