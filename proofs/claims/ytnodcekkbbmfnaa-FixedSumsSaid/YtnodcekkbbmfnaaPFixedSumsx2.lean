-- PRINTED BY print.sh 35421559b90ae4d0a3588c463048766b98c2df88dd9212a6774a882060cdf62d: not written by this session
import Derived.Test.YtnodcekkbbmfnaaPFixedSumsx0
import Derived.Test.YtnodcekkbbmfnaaPFixedSumsx1
namespace Go.Proofs.Ytnodcekkbbmfnaa.PFixedSums
open Go.RowKit Go.Proofs.YtnodcekkbbmfnaaW.PrintWords Go.Proofs.YtnodcekkbbmfnaaW.PrintLast Go.Proofs.YtnodcekkbbmfnaaW.PrintMore
attribute [local go_sem] max2_int min2_int max_two min_two max_three min_three max_four min_four   -- for this text's walks alone
set_option linter.unusedVariables false
set_option linter.unusedSimpArgs false

/-! ### stopgatelaw01_FixedSums: function 5 -/
def stopgatelaw01_FixedSums.j0 : Nat → Int → Int → Int → Bool → Int → Bool → Bool → Option (Bool)
  | 0, _, _, _, _, _, _, _ => none
  | k + 1, x0, x1, x5, x6, x9, x10, x62 => if x62 = true then (some false) else ((fixed_Sub.f x5 x1).bind fun bt118 => ((fixed_Add.f x9 x1).bind fun bt120 => (if x6 = true then (if bt118.2 = true then (if bt118.1 = x0 then (if x10 = true then (if bt120.2 = true then (some (bt120.1 == x0)) else (some false)) else (some true)) else (some false)) else (some false)) else (if x10 = true then (if bt120.2 = true then (some (bt120.1 == x0)) else (some false)) else (some true)))))
def stopgatelaw01_FixedSums.f (k : Nat) (a0 : Int) (a1 : Int) : Option (Bool) := (fixed_Add.f a0 a1).bind fun bt109 => ((stopgateref01_Add.f a0 a1).bind fun bt111 => ((fixed_Sub.f a0 a1).bind fun bt113 => ((stopgateref01_Sub.f a0 a1).bind fun bt115 => ((stopgatelaw01_told.f k).bind fun t117 => (if t117 = true then (if bt109.1 = bt111.1 then (if (bt109.2 != bt111.2) = true then (stopgatelaw01_FixedSums.j0 k a0 a1 bt109.1 bt109.2 bt113.1 bt113.2 true) else (if bt113.1 = bt115.1 then (stopgatelaw01_FixedSums.j0 k a0 a1 bt109.1 bt109.2 bt113.1 bt113.2 (bt113.2 != bt115.2)) else (stopgatelaw01_FixedSums.j0 k a0 a1 bt109.1 bt109.2 bt113.1 bt113.2 true))) else (stopgatelaw01_FixedSums.j0 k a0 a1 bt109.1 bt109.2 bt113.1 bt113.2 true)) else (stopgatelaw01_FixedSums.j0 k a0 a1 bt109.1 bt109.2 bt113.1 bt113.2 true))))))
theorem stopgatelaw01_FixedSums.mono_l : ∀ k, (∀ y0 y1 y2 y3 y4 y5 y6, LeO (stopgatelaw01_FixedSums.j0 k y0 y1 y2 y3 y4 y5 y6) (stopgatelaw01_FixedSums.j0 (k + 1) y0 y1 y2 y3 y4 y5 y6))
  | 0 => fun _ _ _ _ _ _ _ r h => by simp [stopgatelaw01_FixedSums.j0] at h
  | k + 1 => by
    have ih0 := stopgatelaw01_FixedSums.mono_l k
    · intro y0 y1 y2 y3 y4 y5 y6
      unfold stopgatelaw01_FixedSums.j0
      repeat' first
      | (with_reducible exact ih0 _ _ _ _ _ _ _)
      | (with_reducible exact stopgatelaw01_told.mono _)
      | (with_reducible exact LeO.refl _)
      | (with_reducible exact LeO.none _)
      | (with_reducible refine LeO.ite ?_ ?_)
      | (with_reducible refine LeO.bind ?_ (fun _ => ?_))
      | exact ih0 _ _ _ _ _ _ _
      | exact stopgatelaw01_told.mono _
      | exact LeO.none _
      | refine LeO.ite ?_ ?_
      | refine LeO.bind ?_ (fun _ => ?_)
theorem stopgatelaw01_FixedSums.mono : ∀ a0 a1 k, LeO (stopgatelaw01_FixedSums.f k a0 a1) (stopgatelaw01_FixedSums.f (k + 1) a0 a1) := by
  intro a0 a1 k
  have ih0 := stopgatelaw01_FixedSums.mono_l k
  unfold stopgatelaw01_FixedSums.f
  repeat' first
      | (with_reducible exact ih0 _ _ _ _ _ _ _)
      | (with_reducible exact stopgatelaw01_told.mono _)
      | (with_reducible exact LeO.refl _)
      | (with_reducible exact LeO.none _)
      | (with_reducible refine LeO.ite ?_ ?_)
      | (with_reducible refine LeO.bind ?_ (fun _ => ?_))
      | exact ih0 _ _ _ _ _ _ _
      | exact stopgatelaw01_told.mono _
      | exact LeO.none _
      | refine LeO.ite ?_ ?_
      | refine LeO.bind ?_ (fun _ => ?_)
set_option maxHeartbeats 8000000 in
set_option maxRecDepth 100000 in
theorem stopgatelaw01_FixedSums.calls (k : Nat) (a0 : Int) (a1 : Int) (r : Bool) (w : World) (h : stopgatelaw01_FixedSums.f k a0 a1 = some r) :
    Calls Try.prog 5 #[.int .i64 a0, .int .i64 a1] w fun e w' => e = .returned (.bool r) ∧ Drawn0 w w' := by
  have H : ((fixed_Add.f a0 a1).bind fun bt109 => ((stopgateref01_Add.f a0 a1).bind fun bt111 => ((fixed_Sub.f a0 a1).bind fun bt113 => ((stopgateref01_Sub.f a0 a1).bind fun bt115 => ((stopgatelaw01_told.f k).bind fun t117 => (if t117 = true then (if bt109.1 = bt111.1 then (if (bt109.2 != bt111.2) = true then (stopgatelaw01_FixedSums.j0 k a0 a1 bt109.1 bt109.2 bt113.1 bt113.2 true) else (if bt113.1 = bt115.1 then (stopgatelaw01_FixedSums.j0 k a0 a1 bt109.1 bt109.2 bt113.1 bt113.2 (bt113.2 != bt115.2)) else (stopgatelaw01_FixedSums.j0 k a0 a1 bt109.1 bt109.2 bt113.1 bt113.2 true))) else (stopgatelaw01_FixedSums.j0 k a0 a1 bt109.1 bt109.2 bt113.1 bt113.2 true)) else (stopgatelaw01_FixedSums.j0 k a0 a1 bt109.1 bt109.2 bt113.1 bt113.2 true))))))) = some r := h
  clear h
  replace H := Option.bind_eq_some_iff.mp H
  obtain ⟨⟨t109, t110⟩, A30, H⟩ := H
  replace H : ((stopgateref01_Add.f a0 a1).bind fun bt111 => ((fixed_Sub.f a0 a1).bind fun bt113 => ((stopgateref01_Sub.f a0 a1).bind fun bt115 => ((stopgatelaw01_told.f k).bind fun t117 => (if t117 = true then (if t109 = bt111.1 then (if (t110 != bt111.2) = true then (stopgatelaw01_FixedSums.j0 k a0 a1 t109 t110 bt113.1 bt113.2 true) else (if bt113.1 = bt115.1 then (stopgatelaw01_FixedSums.j0 k a0 a1 t109 t110 bt113.1 bt113.2 (bt113.2 != bt115.2)) else (stopgatelaw01_FixedSums.j0 k a0 a1 t109 t110 bt113.1 bt113.2 true))) else (stopgatelaw01_FixedSums.j0 k a0 a1 t109 t110 bt113.1 bt113.2 true)) else (stopgatelaw01_FixedSums.j0 k a0 a1 t109 t110 bt113.1 bt113.2 true)))))) = some r := H
  have A3 := Aside0.mk A30
  clear A30
  replace H := Option.bind_eq_some_iff.mp H
  obtain ⟨⟨t111, t112⟩, A40, H⟩ := H
  replace H : ((fixed_Sub.f a0 a1).bind fun bt113 => ((stopgateref01_Sub.f a0 a1).bind fun bt115 => ((stopgatelaw01_told.f k).bind fun t117 => (if t117 = true then (if t109 = t111 then (if (t110 != t112) = true then (stopgatelaw01_FixedSums.j0 k a0 a1 t109 t110 bt113.1 bt113.2 true) else (if bt113.1 = bt115.1 then (stopgatelaw01_FixedSums.j0 k a0 a1 t109 t110 bt113.1 bt113.2 (bt113.2 != bt115.2)) else (stopgatelaw01_FixedSums.j0 k a0 a1 t109 t110 bt113.1 bt113.2 true))) else (stopgatelaw01_FixedSums.j0 k a0 a1 t109 t110 bt113.1 bt113.2 true)) else (stopgatelaw01_FixedSums.j0 k a0 a1 t109 t110 bt113.1 bt113.2 true))))) = some r := H
  have A4 := Aside0.mk A40
  clear A40
  replace H := Option.bind_eq_some_iff.mp H
  obtain ⟨⟨t113, t114⟩, A50, H⟩ := H
  replace H : ((stopgateref01_Sub.f a0 a1).bind fun bt115 => ((stopgatelaw01_told.f k).bind fun t117 => (if t117 = true then (if t109 = t111 then (if (t110 != t112) = true then (stopgatelaw01_FixedSums.j0 k a0 a1 t109 t110 t113 t114 true) else (if t113 = bt115.1 then (stopgatelaw01_FixedSums.j0 k a0 a1 t109 t110 t113 t114 (t114 != bt115.2)) else (stopgatelaw01_FixedSums.j0 k a0 a1 t109 t110 t113 t114 true))) else (stopgatelaw01_FixedSums.j0 k a0 a1 t109 t110 t113 t114 true)) else (stopgatelaw01_FixedSums.j0 k a0 a1 t109 t110 t113 t114 true)))) = some r := H
  have A5 := Aside0.mk A50
  clear A50
  replace H := Option.bind_eq_some_iff.mp H
  obtain ⟨⟨t115, t116⟩, A60, H⟩ := H
  replace H : ((stopgatelaw01_told.f k).bind fun t117 => (if t117 = true then (if t109 = t111 then (if (t110 != t112) = true then (stopgatelaw01_FixedSums.j0 k a0 a1 t109 t110 t113 t114 true) else (if t113 = t115 then (stopgatelaw01_FixedSums.j0 k a0 a1 t109 t110 t113 t114 (t114 != t116)) else (stopgatelaw01_FixedSums.j0 k a0 a1 t109 t110 t113 t114 true))) else (stopgatelaw01_FixedSums.j0 k a0 a1 t109 t110 t113 t114 true)) else (stopgatelaw01_FixedSums.j0 k a0 a1 t109 t110 t113 t114 true))) = some r := H
  have A6 := Aside0.mk A60
  clear A60
  have HC7 := Aside0.mk H
  clear H
  go_enter Try.func5, Try.ntmps5
  go_upto_region 5 with (first | ((with_reducible refine gate_callee (f := 20) rfl ?_); refine goesL_ (some 20) rfl rfl Try.func20 (by kernel_rfl) rfl #[.int .i64 a0, .int .i64 a1] rfl (by (try simp only [List.map_toArray, List.map_cons, List.map_nil]); first | done | rfl | (simp only [List.length_drop, List.length_take]; rfl)) ?_; (with_reducible refine (fixed_Add.calls a0 a1 t109 t110 _ A3.out).mono ?_); rintro e w' ⟨rfl, ⟨nd, rfl⟩⟩; refine ⟨_, rfl, ?_⟩) | ((with_reducible refine gate_callee (f := 21) rfl ?_); refine goesL_ (some 26) rfl rfl Try.func21 (by kernel_rfl) rfl #[.int .i64 a0, .int .i64 a1] rfl (by (try simp only [List.map_toArray, List.map_cons, List.map_nil]); first | done | rfl | (simp only [List.length_drop, List.length_take]; rfl)) ?_; (with_reducible refine (stopgateref01_Add.calls a0 a1 t111 t112 _ A4.out).mono ?_); rintro e w' ⟨rfl, ⟨nd, rfl⟩⟩; refine ⟨_, rfl, ?_⟩) | ((with_reducible refine gate_callee (f := 22) rfl ?_); refine goesL_ (some 32) rfl rfl Try.func22 (by kernel_rfl) rfl #[.int .i64 a0, .int .i64 a1] rfl (by (try simp only [List.map_toArray, List.map_cons, List.map_nil]); first | done | rfl | (simp only [List.length_drop, List.length_take]; rfl)) ?_; (with_reducible refine (fixed_Sub.calls a0 a1 t113 t114 _ A5.out).mono ?_); rintro e w' ⟨rfl, ⟨nd, rfl⟩⟩; refine ⟨_, rfl, ?_⟩) | ((with_reducible refine gate_callee (f := 23) rfl ?_); refine goesL_ (some 38) rfl rfl Try.func23 (by kernel_rfl) rfl #[.int .i64 a0, .int .i64 a1] rfl (by (try simp only [List.map_toArray, List.map_cons, List.map_nil]); first | done | rfl | (simp only [List.length_drop, List.length_take]; rfl)) ?_; (with_reducible refine (stopgateref01_Sub.calls a0 a1 t115 t116 _ A6.out).mono ?_); rintro e w' ⟨rfl, ⟨nd, rfl⟩⟩; refine ⟨_, rfl, ?_⟩))
  (try simp only [Act.put, List.setIfInBounds_toArray, List.set_cons_zero, List.set_cons_succ])
  go_cut [62] (fun v62 wc => ∃ (kq : Nat) (x62_6 : Bool), v62 = .bool x62_6 ∧ Aside0 (stopgatelaw01_FixedSums.j0 kq a0 a1 t109 t110 t113 t114 x62_6 = some r) ∧ Aside0 (kq ≤ k) ∧ Drawn0 w wc)
  case first =>
    have H := HC7.out
    clear HC7
    replace H := Option.bind_eq_some_iff.mp H
    obtain ⟨t117, A80, H⟩ := H
    replace H : (if t117 = true then (if t109 = t111 then (if (t110 != t112) = true then (stopgatelaw01_FixedSums.j0 k a0 a1 t109 t110 t113 t114 true) else (if t113 = t115 then (stopgatelaw01_FixedSums.j0 k a0 a1 t109 t110 t113 t114 (t114 != t116)) else (stopgatelaw01_FixedSums.j0 k a0 a1 t109 t110 t113 t114 true))) else (stopgatelaw01_FixedSums.j0 k a0 a1 t109 t110 t113 t114 true)) else (stopgatelaw01_FixedSums.j0 k a0 a1 t109 t110 t113 t114 true)) = some r := H
    have A8 := Aside0.mk A80
    clear A80
    by_cases c9 : t117 = true
    · subst c9
      have H1 : (if t109 = t111 then (if (t110 != t112) = true then (stopgatelaw01_FixedSums.j0 k a0 a1 t109 t110 t113 t114 true) else (if t113 = t115 then (stopgatelaw01_FixedSums.j0 k a0 a1 t109 t110 t113 t114 (t114 != t116)) else (stopgatelaw01_FixedSums.j0 k a0 a1 t109 t110 t113 t114 true))) else (stopgatelaw01_FixedSums.j0 k a0 a1 t109 t110 t113 t114 true)) = some r := by rw [if_pos rfl] at H; exact H
      clear H
      have H := H1
      clear H1
      by_cases c10 : t109 = t111
      · rw [if_pos c10] at H
        have c10b0 : (t109 == t111) = true := beq_iff_eq.mpr c10
        have c10b1 : (t109 != t111) = false := bne_eq_false_iff_eq.mpr c10
        clear c10
        (first | rw [c10b0] | (simp only [i64_w, i32_w]; rw [c10b0]) | skip)
        by_cases c11 : (t110 != t112) = true
        · rw [if_pos c11] at H
          have c11b0 : (t110 != t112) = true := c11
          (try (have c11b1 : decide (t110 = t112) = false := by simpa using c11))
          (try (have c11b2 : (t110 == t112) = false := by simpa using c11))
          (try (have c11b3 : ¬ (t110 = t112) := by simpa using c11))
          clear c11
          have H' := Aside0.mk H
          clear H
          go_wp2_with (first | ((with_reducible refine gate_callee (f := 19) rfl ?_); refine goesL_ (some 41) rfl rfl Try.func19 (by kernel_rfl) rfl #[] rfl (by (try simp only [List.map_toArray, List.map_cons, List.map_nil]); first | done | rfl | (simp only [List.length_drop, List.length_take]; rfl)) ?_; (with_reducible refine (stopgatelaw01_told.calls k  true _ A8.out).mono ?_); rintro e w' ⟨rfl, ⟨nd, rfl⟩⟩; refine ⟨_, rfl, ?_⟩))
          go_meet
          case rel => exact ⟨_, (true), (by first | rfl | (simp; done) | (simp [*]; done)), H', ⟨by first | omega | exact Nat.le_refl _⟩, by repeat (first | exact Drawn0.refl _ | apply Drawn0.step)⟩
        · rw [if_neg c11] at H
          have c11b0 : (t110 != t112) = false := by simpa using c11
          (try (have c11b1 : decide (t110 = t112) = true := by simpa using c11))
          (try (have c11b2 : (t110 == t112) = true := by simpa using c11))
          clear c11
          by_cases c12 : t113 = t115
          · rw [if_pos c12] at H
            have c12b0 : (t113 == t115) = true := beq_iff_eq.mpr c12
            have c12b1 : (t113 != t115) = false := bne_eq_false_iff_eq.mpr c12
            clear c12
            have H' := Aside0.mk H
            clear H
            go_wp2_with (first | ((with_reducible refine gate_callee (f := 19) rfl ?_); refine goesL_ (some 41) rfl rfl Try.func19 (by kernel_rfl) rfl #[] rfl (by (try simp only [List.map_toArray, List.map_cons, List.map_nil]); first | done | rfl | (simp only [List.length_drop, List.length_take]; rfl)) ?_; (with_reducible refine (stopgatelaw01_told.calls k  true _ A8.out).mono ?_); rintro e w' ⟨rfl, ⟨nd, rfl⟩⟩; refine ⟨_, rfl, ?_⟩))
            go_meet
            case rel => exact ⟨_, ((t114 != t116)), (by first | rfl | (simp; done) | (simp [*]; done)), H', ⟨by first | omega | exact Nat.le_refl _⟩, by repeat (first | exact Drawn0.refl _ | apply Drawn0.step)⟩
          · rw [if_neg c12] at H
            have c12b0 : (t113 == t115) = false := beq_eq_false_iff_ne.mpr c12
            have c12b1 : (t113 != t115) = true := bne_iff_ne.mpr c12
            have H' := Aside0.mk H
            clear H
            go_wp2_with (first | ((with_reducible refine gate_callee (f := 19) rfl ?_); refine goesL_ (some 41) rfl rfl Try.func19 (by kernel_rfl) rfl #[] rfl (by (try simp only [List.map_toArray, List.map_cons, List.map_nil]); first | done | rfl | (simp only [List.length_drop, List.length_take]; rfl)) ?_; (with_reducible refine (stopgatelaw01_told.calls k  true _ A8.out).mono ?_); rintro e w' ⟨rfl, ⟨nd, rfl⟩⟩; refine ⟨_, rfl, ?_⟩))
            go_meet
            case rel => exact ⟨_, (true), (by first | rfl | (simp; done) | (simp [*]; done)), H', ⟨by first | omega | exact Nat.le_refl _⟩, by repeat (first | exact Drawn0.refl _ | apply Drawn0.step)⟩
      · rw [if_neg c10] at H
        have c10b0 : (t109 == t111) = false := beq_eq_false_iff_ne.mpr c10
        have c10b1 : (t109 != t111) = true := bne_iff_ne.mpr c10
        (first | rw [c10b0] | (simp only [i64_w, i32_w]; rw [c10b0]) | skip)
        have H' := Aside0.mk H
        clear H
        go_wp2_with (first | ((with_reducible refine gate_callee (f := 19) rfl ?_); refine goesL_ (some 41) rfl rfl Try.func19 (by kernel_rfl) rfl #[] rfl (by (try simp only [List.map_toArray, List.map_cons, List.map_nil]); first | done | rfl | (simp only [List.length_drop, List.length_take]; rfl)) ?_; (with_reducible refine (stopgatelaw01_told.calls k  true _ A8.out).mono ?_); rintro e w' ⟨rfl, ⟨nd, rfl⟩⟩; refine ⟨_, rfl, ?_⟩))
        go_meet
        case rel => exact ⟨_, (true), (by first | rfl | (simp; done) | (simp [*]; done)), H', ⟨by first | omega | exact Nat.le_refl _⟩, by repeat (first | exact Drawn0.refl _ | apply Drawn0.step)⟩
    · replace c9 := Bool.eq_false_iff.mpr c9
      subst c9
      have H1 : (stopgatelaw01_FixedSums.j0 k a0 a1 t109 t110 t113 t114 true) = some r := by rw [if_neg (show ¬ (false = true) by decide)] at H; exact H
      clear H
      have H := H1
      clear H1
      have H' := Aside0.mk H
      clear H
      go_wp2_with (first | ((with_reducible refine gate_callee (f := 19) rfl ?_); refine goesL_ (some 41) rfl rfl Try.func19 (by kernel_rfl) rfl #[] rfl (by (try simp only [List.map_toArray, List.map_cons, List.map_nil]); first | done | rfl | (simp only [List.length_drop, List.length_take]; rfl)) ?_; (with_reducible refine (stopgatelaw01_told.calls k  false _ A8.out).mono ?_); rintro e w' ⟨rfl, ⟨nd, rfl⟩⟩; refine ⟨_, rfl, ?_⟩))
      go_meet
      case rel => exact ⟨_, (true), (by first | rfl | (simp; done) | (simp [*]; done)), H', ⟨by first | omega | exact Nat.le_refl _⟩, by repeat (first | exact Drawn0.refl _ | apply Drawn0.step)⟩
  case rest =>
    clear HC7
    try clear c1
    try clear c2
    try clear p2
    try clear c5
    try clear c9
    try clear c10
    try clear c10b0
    try clear c10b1
    try clear c11
    try clear c11b0
    try clear c11b1
    try clear c11b2
    try clear c12
    try clear c12b0
    try clear c12b1
    obtain ⟨kq, x62_6, rfl, HA, HJ6, ⟨mc6, rfl⟩⟩ := hcut
    cases kq with
    | zero => exact absurd HA.out (by simp [stopgatelaw01_FixedSums.j0])
    | succ kj6 =>
      have H := HA.out
      clear HA
      simp only [stopgatelaw01_FixedSums.j0] at H
      by_cases c13 : x62_6 = true
      · subst c13
        have H1 : (some false) = some r := by rw [if_pos rfl] at H; exact H
        clear H
        have H := H1
        clear H1
        obtain rfl := Option.some.inj H
        go_wp2
        go_ret
        exact ⟨by first | rfl | (simp; done) | (simp [*]; done), by repeat (first | exact Drawn0.refl _ | apply Drawn0.step)⟩
      · replace c13 := Bool.eq_false_iff.mpr c13
        subst c13
        have H1 : ((fixed_Sub.f t109 a1).bind fun bt118 => ((fixed_Add.f t113 a1).bind fun bt120 => (if t110 = true then (if bt118.2 = true then (if bt118.1 = a0 then (if t114 = true then (if bt120.2 = true then (some (bt120.1 == a0)) else (some false)) else (some true)) else (some false)) else (some false)) else (if t114 = true then (if bt120.2 = true then (some (bt120.1 == a0)) else (some false)) else (some true))))) = some r := by rw [if_neg (show ¬ (false = true) by decide)] at H; exact H
        clear H
        have H := H1
        clear H1
        replace H := Option.bind_eq_some_iff.mp H
        obtain ⟨⟨t118, t119⟩, A140, H⟩ := H
        replace H : ((fixed_Add.f t113 a1).bind fun bt120 => (if t110 = true then (if t119 = true then (if t118 = a0 then (if t114 = true then (if bt120.2 = true then (some (bt120.1 == a0)) else (some false)) else (some true)) else (some false)) else (some false)) else (if t114 = true then (if bt120.2 = true then (some (bt120.1 == a0)) else (some false)) else (some true)))) = some r := H
        have A14 := Aside0.mk A140
        clear A140
        replace H := Option.bind_eq_some_iff.mp H
        obtain ⟨⟨t120, t121⟩, A150, H⟩ := H
        replace H : (if t110 = true then (if t119 = true then (if t118 = a0 then (if t114 = true then (if t121 = true then (some (t120 == a0)) else (some false)) else (some true)) else (some false)) else (some false)) else (if t114 = true then (if t121 = true then (some (t120 == a0)) else (some false)) else (some true))) = some r := H
        have A15 := Aside0.mk A150
        clear A150
        by_cases c16 : t110 = true
        · subst c16
          have H1 : (if t119 = true then (if t118 = a0 then (if t114 = true then (if t121 = true then (some (t120 == a0)) else (some false)) else (some true)) else (some false)) else (some false)) = some r := by rw [if_pos rfl] at H; exact H
          clear H
          have H := H1
          clear H1
          by_cases c17 : t119 = true
          · subst c17
            have H1 : (if t118 = a0 then (if t114 = true then (if t121 = true then (some (t120 == a0)) else (some false)) else (some true)) else (some false)) = some r := by rw [if_pos rfl] at H; exact H
            clear H
            have H := H1
            clear H1
            by_cases c18 : t118 = a0
            · rw [if_pos c18] at H
              have c18b0 : (t118 == a0) = true := beq_iff_eq.mpr c18
              have c18b1 : (t118 != a0) = false := bne_eq_false_iff_eq.mpr c18
              clear c18
              by_cases c19 : t114 = true
              · subst c19
                have H1 : (if t121 = true then (some (t120 == a0)) else (some false)) = some r := by rw [if_pos rfl] at H; exact H
                clear H
                have H := H1
                clear H1
                by_cases c20 : t121 = true
                · subst c20
                  have H1 : (some (t120 == a0)) = some r := by rw [if_pos rfl] at H; exact H
                  clear H
                  have H := H1
                  clear H1
                  obtain rfl := Option.some.inj H
                  go_wp2_with (first | ((with_reducible refine gate_callee (f := 22) rfl ?_); refine goesL_ (some 66) rfl rfl Try.func22 (by kernel_rfl) rfl #[.int .i64 t109, .int .i64 a1] rfl (by (try simp only [List.map_toArray, List.map_cons, List.map_nil]); first | done | rfl | (simp only [List.length_drop, List.length_take]; rfl)) ?_; (with_reducible refine (fixed_Sub.calls t109 a1 t118 true _ A14.out).mono ?_); rintro e w' ⟨rfl, ⟨nd, rfl⟩⟩; refine ⟨_, rfl, ?_⟩) | ((with_reducible refine gate_callee (f := 20) rfl ?_); refine goesL_ (some 72) rfl rfl Try.func20 (by kernel_rfl) rfl #[.int .i64 t113, .int .i64 a1] rfl (by (try simp only [List.map_toArray, List.map_cons, List.map_nil]); first | done | rfl | (simp only [List.length_drop, List.length_take]; rfl)) ?_; (with_reducible refine (fixed_Add.calls t113 a1 t120 true _ A15.out).mono ?_); rintro e w' ⟨rfl, ⟨nd, rfl⟩⟩; refine ⟨_, rfl, ?_⟩))
                  go_ret
                  exact ⟨by first | rfl | (simp; done) | (simp [*]; done), by repeat (first | exact Drawn0.refl _ | apply Drawn0.step)⟩
                · replace c20 := Bool.eq_false_iff.mpr c20
                  subst c20
                  have H1 : (some false) = some r := by rw [if_neg (show ¬ (false = true) by decide)] at H; exact H
                  clear H
                  have H := H1
                  clear H1
                  obtain rfl := Option.some.inj H
                  go_wp2_with (first | ((with_reducible refine gate_callee (f := 22) rfl ?_); refine goesL_ (some 66) rfl rfl Try.func22 (by kernel_rfl) rfl #[.int .i64 t109, .int .i64 a1] rfl (by (try simp only [List.map_toArray, List.map_cons, List.map_nil]); first | done | rfl | (simp only [List.length_drop, List.length_take]; rfl)) ?_; (with_reducible refine (fixed_Sub.calls t109 a1 t118 true _ A14.out).mono ?_); rintro e w' ⟨rfl, ⟨nd, rfl⟩⟩; refine ⟨_, rfl, ?_⟩) | ((with_reducible refine gate_callee (f := 20) rfl ?_); refine goesL_ (some 72) rfl rfl Try.func20 (by kernel_rfl) rfl #[.int .i64 t113, .int .i64 a1] rfl (by (try simp only [List.map_toArray, List.map_cons, List.map_nil]); first | done | rfl | (simp only [List.length_drop, List.length_take]; rfl)) ?_; (with_reducible refine (fixed_Add.calls t113 a1 t120 false _ A15.out).mono ?_); rintro e w' ⟨rfl, ⟨nd, rfl⟩⟩; refine ⟨_, rfl, ?_⟩))
                  go_ret
                  exact ⟨by first | rfl | (simp; done) | (simp [*]; done), by repeat (first | exact Drawn0.refl _ | apply Drawn0.step)⟩
              · replace c19 := Bool.eq_false_iff.mpr c19
                subst c19
                have H1 : (some true) = some r := by rw [if_neg (show ¬ (false = true) by decide)] at H; exact H
                clear H
                have H := H1
                clear H1
                obtain rfl := Option.some.inj H
                go_wp2_with (first | ((with_reducible refine gate_callee (f := 22) rfl ?_); refine goesL_ (some 66) rfl rfl Try.func22 (by kernel_rfl) rfl #[.int .i64 t109, .int .i64 a1] rfl (by (try simp only [List.map_toArray, List.map_cons, List.map_nil]); first | done | rfl | (simp only [List.length_drop, List.length_take]; rfl)) ?_; (with_reducible refine (fixed_Sub.calls t109 a1 t118 true _ A14.out).mono ?_); rintro e w' ⟨rfl, ⟨nd, rfl⟩⟩; refine ⟨_, rfl, ?_⟩) | ((with_reducible refine gate_callee (f := 20) rfl ?_); refine goesL_ (some 72) rfl rfl Try.func20 (by kernel_rfl) rfl #[.int .i64 t113, .int .i64 a1] rfl (by (try simp only [List.map_toArray, List.map_cons, List.map_nil]); first | done | rfl | (simp only [List.length_drop, List.length_take]; rfl)) ?_; (with_reducible refine (fixed_Add.calls t113 a1 t120 t121 _ A15.out).mono ?_); rintro e w' ⟨rfl, ⟨nd, rfl⟩⟩; refine ⟨_, rfl, ?_⟩))
                go_ret
                exact ⟨by first | rfl | (simp; done) | (simp [*]; done), by repeat (first | exact Drawn0.refl _ | apply Drawn0.step)⟩
            · rw [if_neg c18] at H
              have c18b0 : (t118 == a0) = false := beq_eq_false_iff_ne.mpr c18
              have c18b1 : (t118 != a0) = true := bne_iff_ne.mpr c18
              obtain rfl := Option.some.inj H
              go_wp2_with (first | ((with_reducible refine gate_callee (f := 22) rfl ?_); refine goesL_ (some 66) rfl rfl Try.func22 (by kernel_rfl) rfl #[.int .i64 t109, .int .i64 a1] rfl (by (try simp only [List.map_toArray, List.map_cons, List.map_nil]); first | done | rfl | (simp only [List.length_drop, List.length_take]; rfl)) ?_; (with_reducible refine (fixed_Sub.calls t109 a1 t118 true _ A14.out).mono ?_); rintro e w' ⟨rfl, ⟨nd, rfl⟩⟩; refine ⟨_, rfl, ?_⟩) | ((with_reducible refine gate_callee (f := 20) rfl ?_); refine goesL_ (some 72) rfl rfl Try.func20 (by kernel_rfl) rfl #[.int .i64 t113, .int .i64 a1] rfl (by (try simp only [List.map_toArray, List.map_cons, List.map_nil]); first | done | rfl | (simp only [List.length_drop, List.length_take]; rfl)) ?_; (with_reducible refine (fixed_Add.calls t113 a1 t120 t121 _ A15.out).mono ?_); rintro e w' ⟨rfl, ⟨nd, rfl⟩⟩; refine ⟨_, rfl, ?_⟩))
              go_ret
              exact ⟨by first | rfl | (simp; done) | (simp [*]; done), by repeat (first | exact Drawn0.refl _ | apply Drawn0.step)⟩
          · replace c17 := Bool.eq_false_iff.mpr c17
            subst c17
            have H1 : (some false) = some r := by rw [if_neg (show ¬ (false = true) by decide)] at H; exact H
            clear H
            have H := H1
            clear H1
            obtain rfl := Option.some.inj H
            go_wp2_with (first | ((with_reducible refine gate_callee (f := 22) rfl ?_); refine goesL_ (some 66) rfl rfl Try.func22 (by kernel_rfl) rfl #[.int .i64 t109, .int .i64 a1] rfl (by (try simp only [List.map_toArray, List.map_cons, List.map_nil]); first | done | rfl | (simp only [List.length_drop, List.length_take]; rfl)) ?_; (with_reducible refine (fixed_Sub.calls t109 a1 t118 false _ A14.out).mono ?_); rintro e w' ⟨rfl, ⟨nd, rfl⟩⟩; refine ⟨_, rfl, ?_⟩) | ((with_reducible refine gate_callee (f := 20) rfl ?_); refine goesL_ (some 72) rfl rfl Try.func20 (by kernel_rfl) rfl #[.int .i64 t113, .int .i64 a1] rfl (by (try simp only [List.map_toArray, List.map_cons, List.map_nil]); first | done | rfl | (simp only [List.length_drop, List.length_take]; rfl)) ?_; (with_reducible refine (fixed_Add.calls t113 a1 t120 t121 _ A15.out).mono ?_); rintro e w' ⟨rfl, ⟨nd, rfl⟩⟩; refine ⟨_, rfl, ?_⟩))
            go_ret
            exact ⟨by first | rfl | (simp; done) | (simp [*]; done), by repeat (first | exact Drawn0.refl _ | apply Drawn0.step)⟩
        · replace c16 := Bool.eq_false_iff.mpr c16
          subst c16
          have H1 : (if t114 = true then (if t121 = true then (some (t120 == a0)) else (some false)) else (some true)) = some r := by rw [if_neg (show ¬ (false = true) by decide)] at H; exact H
          clear H
          have H := H1
          clear H1
          by_cases c21 : t114 = true
          · subst c21
            have H1 : (if t121 = true then (some (t120 == a0)) else (some false)) = some r := by rw [if_pos rfl] at H; exact H
            clear H
            have H := H1
            clear H1
            by_cases c22 : t121 = true
            · subst c22
              have H1 : (some (t120 == a0)) = some r := by rw [if_pos rfl] at H; exact H
              clear H
              have H := H1
              clear H1
              obtain rfl := Option.some.inj H
              go_wp2_with (first | ((with_reducible refine gate_callee (f := 22) rfl ?_); refine goesL_ (some 66) rfl rfl Try.func22 (by kernel_rfl) rfl #[.int .i64 t109, .int .i64 a1] rfl (by (try simp only [List.map_toArray, List.map_cons, List.map_nil]); first | done | rfl | (simp only [List.length_drop, List.length_take]; rfl)) ?_; (with_reducible refine (fixed_Sub.calls t109 a1 t118 t119 _ A14.out).mono ?_); rintro e w' ⟨rfl, ⟨nd, rfl⟩⟩; refine ⟨_, rfl, ?_⟩) | ((with_reducible refine gate_callee (f := 20) rfl ?_); refine goesL_ (some 72) rfl rfl Try.func20 (by kernel_rfl) rfl #[.int .i64 t113, .int .i64 a1] rfl (by (try simp only [List.map_toArray, List.map_cons, List.map_nil]); first | done | rfl | (simp only [List.length_drop, List.length_take]; rfl)) ?_; (with_reducible refine (fixed_Add.calls t113 a1 t120 true _ A15.out).mono ?_); rintro e w' ⟨rfl, ⟨nd, rfl⟩⟩; refine ⟨_, rfl, ?_⟩))
              go_ret
              exact ⟨by first | rfl | (simp; done) | (simp [*]; done), by repeat (first | exact Drawn0.refl _ | apply Drawn0.step)⟩
            · replace c22 := Bool.eq_false_iff.mpr c22
              subst c22
              have H1 : (some false) = some r := by rw [if_neg (show ¬ (false = true) by decide)] at H; exact H
              clear H
              have H := H1
              clear H1
              obtain rfl := Option.some.inj H
              go_wp2_with (first | ((with_reducible refine gate_callee (f := 22) rfl ?_); refine goesL_ (some 66) rfl rfl Try.func22 (by kernel_rfl) rfl #[.int .i64 t109, .int .i64 a1] rfl (by (try simp only [List.map_toArray, List.map_cons, List.map_nil]); first | done | rfl | (simp only [List.length_drop, List.length_take]; rfl)) ?_; (with_reducible refine (fixed_Sub.calls t109 a1 t118 t119 _ A14.out).mono ?_); rintro e w' ⟨rfl, ⟨nd, rfl⟩⟩; refine ⟨_, rfl, ?_⟩) | ((with_reducible refine gate_callee (f := 20) rfl ?_); refine goesL_ (some 72) rfl rfl Try.func20 (by kernel_rfl) rfl #[.int .i64 t113, .int .i64 a1] rfl (by (try simp only [List.map_toArray, List.map_cons, List.map_nil]); first | done | rfl | (simp only [List.length_drop, List.length_take]; rfl)) ?_; (with_reducible refine (fixed_Add.calls t113 a1 t120 false _ A15.out).mono ?_); rintro e w' ⟨rfl, ⟨nd, rfl⟩⟩; refine ⟨_, rfl, ?_⟩))
              go_ret
              exact ⟨by first | rfl | (simp; done) | (simp [*]; done), by repeat (first | exact Drawn0.refl _ | apply Drawn0.step)⟩
          · replace c21 := Bool.eq_false_iff.mpr c21
            subst c21
            have H1 : (some true) = some r := by rw [if_neg (show ¬ (false = true) by decide)] at H; exact H
            clear H
            have H := H1
            clear H1
            obtain rfl := Option.some.inj H
            go_wp2_with (first | ((with_reducible refine gate_callee (f := 22) rfl ?_); refine goesL_ (some 66) rfl rfl Try.func22 (by kernel_rfl) rfl #[.int .i64 t109, .int .i64 a1] rfl (by (try simp only [List.map_toArray, List.map_cons, List.map_nil]); first | done | rfl | (simp only [List.length_drop, List.length_take]; rfl)) ?_; (with_reducible refine (fixed_Sub.calls t109 a1 t118 t119 _ A14.out).mono ?_); rintro e w' ⟨rfl, ⟨nd, rfl⟩⟩; refine ⟨_, rfl, ?_⟩) | ((with_reducible refine gate_callee (f := 20) rfl ?_); refine goesL_ (some 72) rfl rfl Try.func20 (by kernel_rfl) rfl #[.int .i64 t113, .int .i64 a1] rfl (by (try simp only [List.map_toArray, List.map_cons, List.map_nil]); first | done | rfl | (simp only [List.length_drop, List.length_take]; rfl)) ?_; (with_reducible refine (fixed_Add.calls t113 a1 t120 t121 _ A15.out).mono ?_); rintro e w' ⟨rfl, ⟨nd, rfl⟩⟩; refine ⟨_, rfl, ?_⟩))
            go_ret
            exact ⟨by first | rfl | (simp; done) | (simp [*]; done), by repeat (first | exact Drawn0.refl _ | apply Drawn0.step)⟩

/-- THE ONE PURE STATEMENT of stopgatelaw01_FixedSums: yours. -/
def stopgatelaw01_FixedSums.Pure : Prop := ∀ (a0 : Int) (a1 : Int), (Lit.int .i64 a0).wf = true → (Lit.int .i64 a1).wf = true → ∃ k, stopgatelaw01_FixedSums.f k a0 a1 = some true
theorem stopgatelaw01_FixedSums.walk (P : stopgatelaw01_FixedSums.Pure) (a0 : Int) (a1 : Int) (w : World) (w0 : (Lit.int .i64 a0).wf = true) (w1 : (Lit.int .i64 a1).wf = true) :
    Calls Try.prog 5 #[.int .i64 a0, .int .i64 a1] w fun e w' => e = .returned (.bool true) ∧ Below w.heap.size w w' := by
  obtain ⟨k, h⟩ := P a0 a1 w0 w1
  refine (stopgatelaw01_FixedSums.calls k a0 a1 true w h).mono ?_
  rintro e w' ⟨rfl, hd⟩
  exact ⟨rfl, hd.below⟩

end Go.Proofs.Ytnodcekkbbmfnaa.PFixedSums
