/- Printed by wip/gen/myprint.py, a program of this session, for this claim: functions of the program as Lean functions, each with a proof that the Go code comes to its answers. -/
import Derived.Test.YtgikjgekdeaneaaQRulesLooksx0
import Derived.Test.YtgikjgekdeaneaaQRulesLooksx3
namespace Go.Proofs.Ytgikjgekdeaneaa.QRulesLooks
open Go.RowKit Go.Proofs.YtgikjgekdeaneaaW.PrintWords Go.Proofs.YtgikjgekdeaneaaW.PrintLast Go.Proofs.YtgikjgekdeaneaaW.PrintMore
attribute [local go_sem] max2_int min2_int max_two min_two max_three min_three max_four min_four   -- for this text's walks alone
set_option linter.unusedVariables false
set_option linter.unusedSimpArgs false

attribute [local go_sem] run_store_flt
/-! ### stopgatelaw05_To: function 42 -/
def stopgatelaw05_To.l0 : Nat → Int → Int → Int → Int → Int → List (S176) → List Int → List (S86) → Int → Int → Int → Int → List (S178) → List Int → List (S147) → Option (Int × Int × Int × Int × (List (S178)) × List Int × (List (S147)))
 | 0, _, _, _, _, _, _, _, _, _, _, _, _, _, _, _ => none
 | k + 1, x4, x168000, x168001, x168002, x168003, x168004, x168005, x168006, x179000, x179001, x179002, x179003, x179004, x179005, x179006 => if x4 < (x168006.length : Int) then (if 0 ≤ x4 then (if x179006.length < 4398046511104 then (stopgatelaw05_To.l0 k (wrap64 (x4 + 1)) x168000 x168001 x168002 x168003 x168004 x168005 x168006 x179000 x179001 x179002 x179003 x179004 x179005 (x179006 ++ [(⟨(rd_T86 x168006 x4).f0, (rd_T86 x168006 x4).f1, (rd_T86 x168006 x4).f2, (rd_T86 x168006 x4).f3⟩ : S147)])) else (none)) else (none)) else (some (x179000, x179001, x179002, x179003, x179004, x179005, x179006))
def stopgatelaw05_To.f (k : Nat) (a0_0 : Int) (a0_1 : Int) (a0_2 : Int) (a0_3 : Int) (l0_4 : List (S176)) (l0_5 : List Int) (l0_6 : List (S86)) : Option (Int × Int × Int × Int × (List (S178)) × List Int × (List (S147))) := (stopgatelaw03_To.f k l0_4).bind fun t169 => ((some (([] : List Int) : List Int)).bind fun y172 => (if y172.length + l0_5.length < 17592186044416 then (stopgatelaw05_To.l0 k 0 a0_0 a0_1 a0_2 a0_3 l0_4 l0_5 l0_6 a0_0 a0_1 a0_2 a0_3 t169 (y172 ++ l0_5) ([] : List (S147))) else (none)))
theorem stopgatelaw05_To.mono_l : ∀ k, (∀ y0 y1 y2 y3 y4 y5 y6 y7 y8 y9 y10 y11 y12 y13 y14, LeO (stopgatelaw05_To.l0 k y0 y1 y2 y3 y4 y5 y6 y7 y8 y9 y10 y11 y12 y13 y14) (stopgatelaw05_To.l0 (k + 1) y0 y1 y2 y3 y4 y5 y6 y7 y8 y9 y10 y11 y12 y13 y14))
 | 0 => fun _ _ _ _ _ _ _ _ _ _ _ _ _ _ _ r h => by simp [stopgatelaw05_To.l0] at h
 | k + 1 => by
  have ih0 := stopgatelaw05_To.mono_l k
  ·intro y0 y1 y2 y3 y4 y5 y6 y7 y8 y9 y10 y11 y12 y13 y14
   unfold stopgatelaw05_To.l0
   repeat' first
   | (with_reducible exact ih0 _ _ _ _ _ _ _ _ _ _ _ _ _ _ _)
   | (with_reducible exact stopgatelaw03_To.mono _ _)
   | (with_reducible exact LeO.refl _)
   | (with_reducible exact LeO.none _)
   | (with_reducible refine LeO.ite ?_ ?_)
   | (with_reducible refine LeO.bind ?_ (fun _ => ?_))
   | exact ih0 _ _ _ _ _ _ _ _ _ _ _ _ _ _ _
   | exact stopgatelaw03_To.mono _ _
   | exact LeO.none _
   | refine LeO.ite ?_ ?_
   | refine LeO.bind ?_ (fun _ => ?_)
theorem stopgatelaw05_To.mono : ∀ a0 a1 a2 a3 a4 a5 a6 k, LeO (stopgatelaw05_To.f k a0 a1 a2 a3 a4 a5 a6) (stopgatelaw05_To.f (k + 1) a0 a1 a2 a3 a4 a5 a6) := by
 intro a0 a1 a2 a3 a4 a5 a6 k
 have ih0 := stopgatelaw05_To.mono_l k
 unfold stopgatelaw05_To.f
 repeat' first
   | (with_reducible exact ih0 _ _ _ _ _ _ _ _ _ _ _ _ _ _ _)
   | (with_reducible exact stopgatelaw03_To.mono _ _)
   | (with_reducible exact LeO.refl _)
   | (with_reducible exact LeO.none _)
   | (with_reducible refine LeO.ite ?_ ?_)
   | (with_reducible refine LeO.bind ?_ (fun _ => ?_))
   | exact ih0 _ _ _ _ _ _ _ _ _ _ _ _ _ _ _
   | exact stopgatelaw03_To.mono _ _
   | exact LeO.none _
   | refine LeO.ite ?_ ?_
   | refine LeO.bind ?_ (fun _ => ?_)
def stopgatelaw05_To.T1 : Bool × List (List Nat × List Nat) := (true, [([], []), ([0], [0]), ([], []), ([2], [2]), ([], []), ([4], [4]), ([], []), ([6], [6]), ([], []), ([8], [8]), ([9], [9]), ([], []), ([], []), ([12], [12]), ([11, 13, 10], [11, 13]), ([1, 3, 5, 7, 10, 14], [1, 3, 5, 7, 10, 14]), ([], []), ([16, 15, 14, 0, 1, 2, 3, 4, 5, 6, 7, 8, 9, 10, 11, 12, 13, 14, 15, 16], [15, 16])])
def stopgatelaw05_To.B1 : List Nat := [0, 1, 0, 4, 0, 16, 0, 64, 0, 256, 768, 0, 0, 4096, 16128, 32767, 0, 131071]
theorem stopgatelaw05_To.tab1 : rtab .any (opsOf Try.f42 1) = stopgatelaw05_To.T1 := by kernel_rfl
theorem stopgatelaw05_To.bits1 : waitsOk stopgatelaw05_To.T1.2 stopgatelaw05_To.B1 = true := by kernel_rfl
set_option maxHeartbeats 8000000 in
set_option maxRecDepth 100000 in
theorem stopgatelaw05_To.calls (k : Nat) (a0_0 : Int) (a0_1 : Int) (a0_2 : Int) (a0_3 : Int) (A0_4 : Option Addr) (c0_4 : Nat) (l0_4 : List (S176)) (A0_5 : Option Addr) (c0_5 : Nat) (l0_5 : List Int) (A0_6 : Option Addr) (c0_6 : Nat) (l0_6 : List (S86)) (r1 : Int) (r2 : Int) (r3 : Int) (r4 : Int) (r5 : List (S178)) (r6 : List Int) (r7 : List (S147)) (w : World) (hr0_4 : Kd.C k176 w A0_4 l0_4.length l0_4) (hc0_4 : l0_4.length ≤ c0_4) (hr0_5 : Kd.C (Kd.int .i64) w A0_5 l0_5.length l0_5) (hc0_5 : l0_5.length ≤ c0_5) (hr0_6 : Kd.C k86 w A0_6 l0_6.length l0_6) (hc0_6 : l0_6.length ≤ c0_6) (h : stopgatelaw05_To.f k a0_0 a0_1 a0_2 a0_3 l0_4 l0_5 l0_6 = some (r1, r2, r3, r4, r5, r6, r7)) :
  Calls Try.prog 42 #[.agg #[.int .i64 a0_0, .int .i64 a0_1, .int .i64 a0_2, .int .i64 a0_3, .slice A0_4 l0_4.length c0_4, .slice A0_5 l0_5.length c0_5, .slice A0_6 l0_6.length c0_6]] w fun e w' => ∃ v4_ v5_ v6_ : Value, e = .returned (.agg #[.int .i64 r1, .int .i64 r2, .int .i64 r3, .int .i64 r4, v4_, v5_, v6_]) ∧ Kd.R k178 178 w' w.heap.size (fun _ => True) v4_ r5 ∧ Kd.R (Kd.int .i64) 3 w' w.heap.size (fun _ => True) v5_ r6 ∧ Kd.R k147 147 w' w.heap.size (fun _ => True) v6_ r7 ∧ Below w.heap.size w w' := by
 have hu81 := Try.underlying81
 have hu90 := Try.underlying90
 have hu86 := Try.underlying86
 have hu147 := Try.underlying147
 have HR0_4 := A0s.mk hr0_4
 have HC0_4 := A0s.mk hc0_4
 clear hr0_4 hc0_4
 have HR0_5 := A0s.mk hr0_5
 have HC0_5 := A0s.mk hc0_5
 clear hr0_5 hc0_5
 have HR0_6 := A0s.mk hr0_6
 have HC0_6 := A0s.mk hc0_6
 clear hr0_6 hc0_6
 have HB := A0s.mk (Below.refl w.heap.size w)
 have H : ((stopgatelaw03_To.f k l0_4).bind fun t169 => ((some (([] : List Int) : List Int)).bind fun y172 => (if y172.length + l0_5.length < 17592186044416 then (stopgatelaw05_To.l0 k 0 a0_0 a0_1 a0_2 a0_3 l0_4 l0_5 l0_6 a0_0 a0_1 a0_2 a0_3 t169 (y172 ++ l0_5) ([] : List (S147))) else (none)))) = some (r1, r2, r3, r4, r5, r6, r7) := h
 clear h
 replace H := Option.bind_eq_some_iff.mp H
 obtain ⟨t169, A20, H⟩ := H
 replace H : ((some (([] : List Int) : List Int)).bind fun y172 => (if y172.length + l0_5.length < 17592186044416 then (stopgatelaw05_To.l0 k 0 a0_0 a0_1 a0_2 a0_3 l0_4 l0_5 l0_6 a0_0 a0_1 a0_2 a0_3 t169 (y172 ++ l0_5) ([] : List (S147))) else (none))) = some (r1, r2, r3, r4, r5, r6, r7) := H
 have A2 := A0s.mk A20
 clear A20
 obtain ⟨y172, hy172⟩ : ∃ y_ : List Int, y_ = (([] : List Int)) := ⟨_, rfl⟩
 replace H : (if y172.length + l0_5.length < 17592186044416 then (stopgatelaw05_To.l0 k 0 a0_0 a0_1 a0_2 a0_3 l0_4 l0_5 l0_6 a0_0 a0_1 a0_2 a0_3 t169 (y172 ++ l0_5) ([] : List (S147))) else (none)) = some (r1, r2, r3, r4, r5, r6, r7) := by first | (rw [hy172]; with_reducible exact H) | (have H2_ := (Option.bind_some _ _).symm.trans H; rw [hy172]; with_reducible exact H2_) | (have H2_ := (Option.bind_some _ _).symm.trans H; with_reducible exact H2_) | with_reducible exact H | (rw [hy172]; exact H) | exact H
 have Ny172 := A0s.mk hy172
 clear hy172
 by_cases c3 : y172.length + l0_5.length < 17592186044416
 ·rw [if_pos c3] at H
  have LMc3 := A0s.mk c3
  clear c3
  obtain ⟨y175, hy175⟩ : ∃ y_ : List Int, y_ = (y172 ++ l0_5) := ⟨_, rfl⟩
  replace H : (stopgatelaw05_To.l0 k 0 a0_0 a0_1 a0_2 a0_3 l0_4 l0_5 l0_6 a0_0 a0_1 a0_2 a0_3 t169 y175 ([] : List (S147))) = some (r1, r2, r3, r4, r5, r6, r7) := by first | (rw [hy175]; with_reducible exact H) | (have H2_ := (Option.bind_some _ _).symm.trans H; rw [hy175]; with_reducible exact H2_) | (have H2_ := (Option.bind_some _ _).symm.trans H; with_reducible exact H2_) | with_reducible exact H | (rw [hy175]; exact H) | exact H
  have Ny175 := A0s.mk hy175
  clear hy175
  have H' := A0s.mk H
  clear H
  go_enter Try.func42, Try.ntmps42
  try go_wp2_with (first | ((with_reducible refine gate_dst (N := 1) rfl ?_); refine box_event ?hg (N := 1) ?hd (cs := #[.int .i64 a0_0, .int .i64 a0_1, .int .i64 a0_2, .int .i64 a0_3, .slice A0_4 l0_4.length c0_4, .slice A0_5 l0_5.length c0_5, .slice A0_6 l0_6.length c0_6]) (t := 81) ?hr ?_; (case hd => rfl); (case hg => rfl); (case hr => first | (go_simp; done) | (go_simp; rfl)); intro gb167 hg w4 hbox hb; have n0_ := A0s.mk (below_step (by repeat (first | (with_reducible first | exact HB.out | apply bA | apply bN | apply bD) | exact HB.out)) hb); have n1_ := A0s.mk (hbox); have n2_ := A0s.mk ((by rw [hg]; exact (below_size (by repeat (first | (with_reducible first | exact HB.out | apply bA | apply bN | apply bD) | exact HB.out))) : w.heap.size ≤ gb167)); have n3_ := A0s.mk ((by rw [hg]; exact (below_size (by repeat (first | (with_reducible first | exact HB.out | apply bA | apply bN | apply bD) | exact HB.out))) : w.heap.size ≤ gb167)); clear HB; have HB := n0_; have BK167 := n1_; have GW167 := n2_; have GE167 := n3_; clear n0_ n1_ n2_ n3_; clear hb hbox hg) | ((with_reducible refine gate_dst (N := 2) rfl ?_); refine box_event ?hg (N := 2) ?hd (cs := #[.int .i64 0, .int .i64 0, .int .i64 0, .int .i64 0, .slice none 0 0, .slice none 0 0, .slice none 0 0]) (t := 90) ?hr ?_; (case hd => rfl); (case hg => rfl); (case hr => first | (go_simp; done) | (go_simp; rfl)); intro gb168 hg w5 hbox hb; have n0_ := A0s.mk (blk_below (g := gb167) (o := .cells #[.int .i64 a0_0, .int .i64 a0_1, .int .i64 a0_2, .int .i64 a0_3, .slice A0_4 l0_4.length c0_4, .slice A0_5 l0_5.length c0_5, .slice A0_6 l0_6.length c0_6] 81 (0, 0)) (by (with_reducible repeat (first | apply kN | apply kD | apply kA)); exact BK167.out) hb); have n1_ := A0s.mk (below_step (by repeat (first | (with_reducible first | exact HB.out | apply bA | apply bN | apply bD | refine bS ?_ GE167.out) | exact HB.out)) hb); have n2_ := A0s.mk (hbox); have n3_ := A0s.mk ((by rw [hg]; exact (below_size (by repeat (first | (with_reducible first | exact HB.out | apply bA | apply bN | apply bD | refine bS ?_ GE167.out) | exact HB.out))) : w.heap.size ≤ gb168)); have n4_ := A0s.mk ((by rw [hg]; exact (below_size (by repeat (first | (with_reducible first | exact HB.out | apply bA | apply bN | apply bD | refine bS ?_ GE167.out) | exact HB.out))) : w.heap.size ≤ gb168)); have n5_ := A0s.mk ((by rw [hg]; exact Nat.ne_of_lt (blk_lt (g := gb167) (o := .cells #[.int .i64 a0_0, .int .i64 a0_1, .int .i64 a0_2, .int .i64 a0_3, .slice A0_4 l0_4.length c0_4, .slice A0_5 l0_5.length c0_5, .slice A0_6 l0_6.length c0_6] 81 (0, 0)) (by (with_reducible repeat (first | apply kN | apply kD | apply kA)); exact BK167.out)) : gb167 ≠ gb168)); have n6_ := A0s.mk ((by rw [hg]; exact Nat.ne_of_gt (blk_lt (g := gb167) (o := .cells #[.int .i64 a0_0, .int .i64 a0_1, .int .i64 a0_2, .int .i64 a0_3, .slice A0_4 l0_4.length c0_4, .slice A0_5 l0_5.length c0_5, .slice A0_6 l0_6.length c0_6] 81 (0, 0)) (by (with_reducible repeat (first | apply kN | apply kD | apply kA)); exact BK167.out)) : gb168 ≠ gb167)); clear BK167; clear HB; have BK167 := n0_; have HB := n1_; have BK168 := n2_; have GW168 := n3_; have GE168 := n4_; have NB167_168 := n5_; have NB168_167 := n6_; clear n0_ n1_ n2_ n3_ n4_ n5_ n6_; clear hb hbox hg))
  have n0_ := A0s.mk (kD BK167.out)
  have n1_ := A0s.mk (kD BK168.out)
  have n2_ := A0s.mk (bD HB.out)
  clear BK167
  clear BK168
  clear HB
  have BK167 := n0_
  have BK168 := n1_
  have HB := n2_
  clear n0_ n1_ n2_
  refine start_ (n := 18) (S := fun w' => w'.cell? ⟨gb167, 0, none⟩ = some (.int .i64 a0_0) ∧ w'.cell? ⟨gb167, 1, none⟩ = some (.int .i64 a0_1) ∧ w'.cell? ⟨gb167, 2, none⟩ = some (.int .i64 a0_2) ∧ w'.cell? ⟨gb167, 3, none⟩ = some (.int .i64 a0_3) ∧ w'.cell? ⟨gb167, 4, none⟩ = some (.slice A0_4 l0_4.length c0_4) ∧ w'.cell? ⟨gb167, 5, none⟩ = some (.slice A0_5 l0_5.length c0_5) ∧ w'.cell? ⟨gb167, 6, none⟩ = some (.slice A0_6 l0_6.length c0_6)) (ds := []) #[false, false, false, false, false, false, false, false, false, false, false, false, false, false, false, false, false, false] (by kernel_rfl) rfl rfl ⟨(kC BK167.out 0).trans rfl, (kC BK167.out 1).trans rfl, (kC BK167.out 2).trans rfl, (kC BK167.out 3).trans rfl, (kC BK167.out 4).trans rfl, (kC BK167.out 5).trans rfl, (kC BK167.out 6).trans rfl⟩ (fun hHeld => ?_); refine with_tabW stopgatelaw05_To.tab1 stopgatelaw05_To.bits1 (fun HT_ HW_ => ?_)
  generalize w5.drew = w6 at BK167 BK168 HB hHeld ⊢
  refine pure_ (i := 0) (N := some 6) (v := ?_) (a' := ?_) #[true, false, false, false, false, false, false, false, false, false, false, false, false, false, false, false, false, false] rfl rfl (any_of HT_.out (by kernel_rfl)) (fun _ _ _ h => h) (Or.inl ⟨by rfl, ?_⟩) ?_ ?_
  rotate_left
  ·intro w'
   go_simp
   with_reducible rfl
  rotate_left
  ·simp only [Act.put, List.setIfInBounds_toArray, List.set_cons_zero, List.set_cons_succ, i64_w, i32_w]
   rfl
  refine pure_ (i := 2) (N := some 8) (v := ?_) (a' := ?_) #[true, false, true, false, false, false, false, false, false, false, false, false, false, false, false, false, false, false] rfl rfl (any_of HT_.out (by kernel_rfl)) (fun _ _ _ h => h) (Or.inl ⟨by rfl, ?_⟩) ?_ ?_
  rotate_left
  ·intro w'
   go_simp
   with_reducible rfl
  rotate_left
  ·simp only [Act.put, List.setIfInBounds_toArray, List.set_cons_zero, List.set_cons_succ, i64_w, i32_w]
   rfl
  refine pure_ (i := 4) (N := some 10) (v := ?_) (a' := ?_) #[true, false, true, false, true, false, false, false, false, false, false, false, false, false, false, false, false, false] rfl rfl (any_of HT_.out (by kernel_rfl)) (fun _ _ _ h => h) (Or.inl ⟨by rfl, ?_⟩) ?_ ?_
  rotate_left
  ·intro w'
   go_simp
   with_reducible rfl
  rotate_left
  ·simp only [Act.put, List.setIfInBounds_toArray, List.set_cons_zero, List.set_cons_succ, i64_w, i32_w]
   rfl
  refine pure_ (i := 6) (N := some 12) (v := ?_) (a' := ?_) #[true, false, true, false, true, false, true, false, false, false, false, false, false, false, false, false, false, false] rfl rfl (any_of HT_.out (by kernel_rfl)) (fun _ _ _ h => h) (Or.inl ⟨by rfl, ?_⟩) ?_ ?_
  rotate_left
  ·intro w'
   go_simp
   with_reducible rfl
  rotate_left
  ·simp only [Act.put, List.setIfInBounds_toArray, List.set_cons_zero, List.set_cons_succ, i64_w, i32_w]
   rfl
  refine pure_ (i := 8) (N := some 14) (v := ?_) (a' := ?_) #[true, false, true, false, true, false, true, false, true, false, false, false, false, false, false, false, false, false] rfl rfl (any_of HT_.out (by kernel_rfl)) (fun _ _ _ h => h) (Or.inl ⟨by rfl, ?_⟩) ?_ ?_
  rotate_left
  ·intro w'
   go_simp
   with_reducible rfl
  rotate_left
  ·simp only [Act.put, List.setIfInBounds_toArray, List.set_cons_zero, List.set_cons_succ, i64_w, i32_w]
   rfl
  refine pure_ (i := 12) (N := some 18) (v := ?_) (a' := ?_) #[true, false, true, false, true, false, true, false, true, false, false, false, true, false, false, false, false, false] rfl rfl (any_of HT_.out (by kernel_rfl)) (fun _ _ _ h => h) (Or.inl ⟨by rfl, ?_⟩) ?_ ?_
  rotate_left
  ·intro w'
   go_simp
   with_reducible rfl
  rotate_left
  ·simp only [Act.put, List.setIfInBounds_toArray, List.set_cons_zero, List.set_cons_succ, i64_w, i32_w]
   rfl
  refine take_ (i := 1) (N := some 7) (v := ?_) (a' := ?_) #[true, true, true, false, true, false, true, false, true, false, false, false, true, false, false, false, false, false] rfl rfl (take_ofW HT_.out HW_.out (by kernel_rfl)) (fun _ _ _ h => h) (Or.inl ⟨by rfl, ?_⟩) hHeld ?_ ?_
  rotate_left
  ·rintro w' ⟨s0, s1, s2, s3, s4, s5, s6⟩
   go_simp
   with_reducible rfl
  rotate_left
  ·simp only [Act.put, List.setIfInBounds_toArray, List.set_cons_zero, List.set_cons_succ, i64_w, i32_w]
   rfl
  refine take_ (i := 3) (N := some 9) (v := ?_) (a' := ?_) #[true, true, true, true, true, false, true, false, true, false, false, false, true, false, false, false, false, false] rfl rfl (take_ofW HT_.out HW_.out (by kernel_rfl)) (fun _ _ _ h => h) (Or.inl ⟨by rfl, ?_⟩) hHeld ?_ ?_
  rotate_left
  ·rintro w' ⟨s0, s1, s2, s3, s4, s5, s6⟩
   go_simp
   with_reducible rfl
  rotate_left
  ·simp only [Act.put, List.setIfInBounds_toArray, List.set_cons_zero, List.set_cons_succ, i64_w, i32_w]
   rfl
  refine take_ (i := 5) (N := some 11) (v := ?_) (a' := ?_) #[true, true, true, true, true, true, true, false, true, false, false, false, true, false, false, false, false, false] rfl rfl (take_ofW HT_.out HW_.out (by kernel_rfl)) (fun _ _ _ h => h) (Or.inl ⟨by rfl, ?_⟩) hHeld ?_ ?_
  rotate_left
  ·rintro w' ⟨s0, s1, s2, s3, s4, s5, s6⟩
   go_simp
   with_reducible rfl
  rotate_left
  ·simp only [Act.put, List.setIfInBounds_toArray, List.set_cons_zero, List.set_cons_succ, i64_w, i32_w]
   rfl
  refine take_ (i := 7) (N := some 13) (v := ?_) (a' := ?_) #[true, true, true, true, true, true, true, true, true, false, false, false, true, false, false, false, false, false] rfl rfl (take_ofW HT_.out HW_.out (by kernel_rfl)) (fun _ _ _ h => h) (Or.inl ⟨by rfl, ?_⟩) hHeld ?_ ?_
  rotate_left
  ·rintro w' ⟨s0, s1, s2, s3, s4, s5, s6⟩
   go_simp
   with_reducible rfl
  rotate_left
  ·simp only [Act.put, List.setIfInBounds_toArray, List.set_cons_zero, List.set_cons_succ, i64_w, i32_w]
   rfl
  refine take_ (i := 9) (N := some 15) (v := ?_) (a' := ?_) #[true, true, true, true, true, true, true, true, true, true, false, false, true, false, false, false, false, false] rfl rfl (take_ofW HT_.out HW_.out (by kernel_rfl)) (fun _ _ _ h => h) (Or.inl ⟨by rfl, ?_⟩) hHeld ?_ ?_
  rotate_left
  ·rintro w' ⟨s0, s1, s2, s3, s4, s5, s6⟩
   go_simp
   with_reducible rfl
  rotate_left
  ·simp only [Act.put, List.setIfInBounds_toArray, List.set_cons_zero, List.set_cons_succ, i64_w, i32_w]
   rfl
  refine take_ (i := 13) (N := some 19) (v := ?_) (a' := ?_) #[true, true, true, true, true, true, true, true, true, true, false, false, true, true, false, false, false, false] rfl rfl (take_ofW HT_.out HW_.out (by kernel_rfl)) (fun _ _ _ h => h) (Or.inl ⟨by rfl, ?_⟩) hHeld ?_ ?_
  rotate_left
  ·rintro w' ⟨s0, s1, s2, s3, s4, s5, s6⟩
   go_simp
   with_reducible rfl
  rotate_left
  ·simp only [Act.put, List.setIfInBounds_toArray, List.set_cons_zero, List.set_cons_succ, i64_w, i32_w]
   rfl
  refine join_ (σ := Value × Value × Value × Nat) 1 #[true, true, true, true, true, true, true, true, true, true, true, true, true, true, true, true, true, false] (fun s_ => [(16, s_.1), (17, s_.2.1), (20, s_.2.2.1), (3, .pointer (some ⟨s_.2.2.2, 0, none⟩)), (21, .agg #[.int .i64 a0_0, .int .i64 a0_1, .int .i64 a0_2, .int .i64 a0_3, s_.1, s_.2.2.1, .slice none 0 0])]) (fun s_ w' => (w'.cell? ⟨gb167, 0, none⟩ = some (.int .i64 a0_0) ∧ w'.cell? ⟨gb167, 1, none⟩ = some (.int .i64 a0_1) ∧ w'.cell? ⟨gb167, 2, none⟩ = some (.int .i64 a0_2) ∧ w'.cell? ⟨gb167, 3, none⟩ = some (.int .i64 a0_3) ∧ w'.cell? ⟨gb167, 4, none⟩ = some (.slice A0_4 l0_4.length c0_4) ∧ w'.cell? ⟨gb167, 5, none⟩ = some (.slice A0_5 l0_5.length c0_5) ∧ w'.cell? ⟨gb167, 6, none⟩ = some (.slice A0_6 l0_6.length c0_6)) ∧ (Kd.R k178 178 w' w.heap.size (fun _ => True) s_.1 t169) ∧ (Kd.R (Kd.int .i64) 3 w' w.heap.size (fun _ => True) s_.2.2.1 y175) ∧ (w'.heap[gb167]? = some (.cells #[.int .i64 a0_0, .int .i64 a0_1, .int .i64 a0_2, .int .i64 a0_3, .slice A0_4 l0_4.length c0_4, .slice A0_5 l0_5.length c0_5, .slice A0_6 l0_6.length c0_6] 81 (0, 0))) ∧ (w'.heap[gb168]? = some (.cells #[.int .i64 0, .int .i64 0, .int .i64 0, .int .i64 0, .slice none 0 0, .slice none 0 0, .slice none 0 0] 90 (0, 0))) ∧ (w'.heap[s_.2.2.2]? = some (.cells #[.int .i64 0, .int .i64 0, .int .i64 0, .int .i64 0, .slice none 0 0, .slice none 0 0, .slice none 0 0] 90 (0, 0))) ∧ (w.heap.size ≤ s_.2.2.2) ∧ (w.heap.size ≤ s_.2.2.2) ∧ (gb167 ≠ s_.2.2.2) ∧ (s_.2.2.2 ≠ gb167) ∧ (gb168 ≠ s_.2.2.2) ∧ (s_.2.2.2 ≠ gb168) ∧ (Below w.heap.size w w')) ?_ ?_
  rotate_left
  ·intro hJ10_11_14_16
   refine join_ (σ := Value × Value × Value) 2 #[true, true, true, true, true, true, true, true, true, true, true, true, true, true, true, true, false, false] (fun s_ => [(16, s_.1), (17, s_.2.1), (20, s_.2.2), (21, .agg #[.int .i64 a0_0, .int .i64 a0_1, .int .i64 a0_2, .int .i64 a0_3, s_.1, s_.2.2, .slice none 0 0])]) (fun s_ w' => (w'.cell? ⟨gb167, 0, none⟩ = some (.int .i64 a0_0) ∧ w'.cell? ⟨gb167, 1, none⟩ = some (.int .i64 a0_1) ∧ w'.cell? ⟨gb167, 2, none⟩ = some (.int .i64 a0_2) ∧ w'.cell? ⟨gb167, 3, none⟩ = some (.int .i64 a0_3) ∧ w'.cell? ⟨gb167, 4, none⟩ = some (.slice A0_4 l0_4.length c0_4) ∧ w'.cell? ⟨gb167, 5, none⟩ = some (.slice A0_5 l0_5.length c0_5) ∧ w'.cell? ⟨gb167, 6, none⟩ = some (.slice A0_6 l0_6.length c0_6)) ∧ (Kd.R k178 178 w' w.heap.size (fun _ => True) s_.1 t169) ∧ (Kd.R (Kd.int .i64) 3 w' w.heap.size (fun _ => True) s_.2.2 y175) ∧ (w'.heap[gb167]? = some (.cells #[.int .i64 a0_0, .int .i64 a0_1, .int .i64 a0_2, .int .i64 a0_3, .slice A0_4 l0_4.length c0_4, .slice A0_5 l0_5.length c0_5, .slice A0_6 l0_6.length c0_6] 81 (0, 0))) ∧ (w'.heap[gb168]? = some (.cells #[.int .i64 0, .int .i64 0, .int .i64 0, .int .i64 0, .slice none 0 0, .slice none 0 0, .slice none 0 0] 90 (0, 0))) ∧ (Below w.heap.size w w')) ?_ ?_
   rotate_left
   ·intro hJ10_11_14
    refine join_ (σ := Value × Value × Nat) 3 #[true, true, true, true, true, true, true, true, true, true, true, true, true, true, false, false, true, false] (fun s_ => [(16, s_.1), (17, s_.2.1), (3, .pointer (some ⟨s_.2.2, 0, none⟩))]) (fun s_ w' => (w'.cell? ⟨gb167, 0, none⟩ = some (.int .i64 a0_0) ∧ w'.cell? ⟨gb167, 1, none⟩ = some (.int .i64 a0_1) ∧ w'.cell? ⟨gb167, 2, none⟩ = some (.int .i64 a0_2) ∧ w'.cell? ⟨gb167, 3, none⟩ = some (.int .i64 a0_3) ∧ w'.cell? ⟨gb167, 4, none⟩ = some (.slice A0_4 l0_4.length c0_4) ∧ w'.cell? ⟨gb167, 5, none⟩ = some (.slice A0_5 l0_5.length c0_5) ∧ w'.cell? ⟨gb167, 6, none⟩ = some (.slice A0_6 l0_6.length c0_6)) ∧ (Kd.R k178 178 w' w.heap.size (fun _ => True) s_.1 t169) ∧ (Kd.R (Kd.int .i64) 3 w' w.heap.size (fun _ => True) s_.2.1 y172) ∧ (w'.heap[gb167]? = some (.cells #[.int .i64 a0_0, .int .i64 a0_1, .int .i64 a0_2, .int .i64 a0_3, .slice A0_4 l0_4.length c0_4, .slice A0_5 l0_5.length c0_5, .slice A0_6 l0_6.length c0_6] 81 (0, 0))) ∧ (w'.heap[gb168]? = some (.cells #[.int .i64 0, .int .i64 0, .int .i64 0, .int .i64 0, .slice none 0 0, .slice none 0 0, .slice none 0 0] 90 (0, 0))) ∧ (w'.heap[s_.2.2]? = some (.cells #[.int .i64 0, .int .i64 0, .int .i64 0, .int .i64 0, .slice none 0 0, .slice none 0 0, .slice none 0 0] 90 (0, 0))) ∧ (w.heap.size ≤ s_.2.2) ∧ (w.heap.size ≤ s_.2.2) ∧ (gb167 ≠ s_.2.2) ∧ (s_.2.2 ≠ gb167) ∧ (gb168 ≠ s_.2.2) ∧ (s_.2.2 ≠ gb168) ∧ (Below w.heap.size w w')) ?_ ?_
    rotate_left
    ·intro hJ10_11_16
     refine join_ (σ := Value × Value) 4 #[true, true, true, true, true, true, true, true, true, true, true, true, true, true, false, false, false, false] (fun s_ => [(16, s_.1), (17, s_.2)]) (fun s_ w' => (w'.cell? ⟨gb167, 0, none⟩ = some (.int .i64 a0_0) ∧ w'.cell? ⟨gb167, 1, none⟩ = some (.int .i64 a0_1) ∧ w'.cell? ⟨gb167, 2, none⟩ = some (.int .i64 a0_2) ∧ w'.cell? ⟨gb167, 3, none⟩ = some (.int .i64 a0_3) ∧ w'.cell? ⟨gb167, 4, none⟩ = some (.slice A0_4 l0_4.length c0_4) ∧ w'.cell? ⟨gb167, 5, none⟩ = some (.slice A0_5 l0_5.length c0_5) ∧ w'.cell? ⟨gb167, 6, none⟩ = some (.slice A0_6 l0_6.length c0_6)) ∧ (Kd.R k178 178 w' w.heap.size (fun _ => True) s_.1 t169) ∧ (Kd.R (Kd.int .i64) 3 w' w.heap.size (fun _ => True) s_.2 y172) ∧ (w'.heap[gb167]? = some (.cells #[.int .i64 a0_0, .int .i64 a0_1, .int .i64 a0_2, .int .i64 a0_3, .slice A0_4 l0_4.length c0_4, .slice A0_5 l0_5.length c0_5, .slice A0_6 l0_6.length c0_6] 81 (0, 0))) ∧ (w'.heap[gb168]? = some (.cells #[.int .i64 0, .int .i64 0, .int .i64 0, .int .i64 0, .slice none 0 0, .slice none 0 0, .slice none 0 0] 90 (0, 0))) ∧ (Below w.heap.size w w')) ?_ ?_
     rotate_left
     ·intro hJ10_11
      refine join_ (σ := Value × Nat) 4 #[true, true, true, true, true, true, true, true, true, true, true, false, true, true, false, false, true, false] (fun s_ => [(16, s_.1), (3, .pointer (some ⟨s_.2, 0, none⟩))]) (fun s_ w' => (w'.cell? ⟨gb167, 0, none⟩ = some (.int .i64 a0_0) ∧ w'.cell? ⟨gb167, 1, none⟩ = some (.int .i64 a0_1) ∧ w'.cell? ⟨gb167, 2, none⟩ = some (.int .i64 a0_2) ∧ w'.cell? ⟨gb167, 3, none⟩ = some (.int .i64 a0_3) ∧ w'.cell? ⟨gb167, 4, none⟩ = some (.slice A0_4 l0_4.length c0_4) ∧ w'.cell? ⟨gb167, 5, none⟩ = some (.slice A0_5 l0_5.length c0_5) ∧ w'.cell? ⟨gb167, 6, none⟩ = some (.slice A0_6 l0_6.length c0_6)) ∧ (Kd.R k178 178 w' w.heap.size (fun _ => True) s_.1 t169) ∧ (w'.heap[gb167]? = some (.cells #[.int .i64 a0_0, .int .i64 a0_1, .int .i64 a0_2, .int .i64 a0_3, .slice A0_4 l0_4.length c0_4, .slice A0_5 l0_5.length c0_5, .slice A0_6 l0_6.length c0_6] 81 (0, 0))) ∧ (w'.heap[gb168]? = some (.cells #[.int .i64 0, .int .i64 0, .int .i64 0, .int .i64 0, .slice none 0 0, .slice none 0 0, .slice none 0 0] 90 (0, 0))) ∧ (w'.heap[s_.2]? = some (.cells #[.int .i64 0, .int .i64 0, .int .i64 0, .int .i64 0, .slice none 0 0, .slice none 0 0, .slice none 0 0] 90 (0, 0))) ∧ (w.heap.size ≤ s_.2) ∧ (w.heap.size ≤ s_.2) ∧ (gb167 ≠ s_.2) ∧ (s_.2 ≠ gb167) ∧ (gb168 ≠ s_.2) ∧ (s_.2 ≠ gb168) ∧ (Below w.heap.size w w')) ?_ ?_
      rotate_left
      ·intro hJ10_16
       refine join_ (σ := Value × Nat) 4 #[true, true, true, true, true, true, true, true, true, true, false, true, true, true, false, false, true, false] (fun s_ => [(17, s_.1), (3, .pointer (some ⟨s_.2, 0, none⟩))]) (fun s_ w' => (w'.cell? ⟨gb167, 0, none⟩ = some (.int .i64 a0_0) ∧ w'.cell? ⟨gb167, 1, none⟩ = some (.int .i64 a0_1) ∧ w'.cell? ⟨gb167, 2, none⟩ = some (.int .i64 a0_2) ∧ w'.cell? ⟨gb167, 3, none⟩ = some (.int .i64 a0_3) ∧ w'.cell? ⟨gb167, 4, none⟩ = some (.slice A0_4 l0_4.length c0_4) ∧ w'.cell? ⟨gb167, 5, none⟩ = some (.slice A0_5 l0_5.length c0_5) ∧ w'.cell? ⟨gb167, 6, none⟩ = some (.slice A0_6 l0_6.length c0_6)) ∧ (Kd.R (Kd.int .i64) 3 w' w.heap.size (fun _ => True) s_.1 y172) ∧ (w'.heap[gb167]? = some (.cells #[.int .i64 a0_0, .int .i64 a0_1, .int .i64 a0_2, .int .i64 a0_3, .slice A0_4 l0_4.length c0_4, .slice A0_5 l0_5.length c0_5, .slice A0_6 l0_6.length c0_6] 81 (0, 0))) ∧ (w'.heap[gb168]? = some (.cells #[.int .i64 0, .int .i64 0, .int .i64 0, .int .i64 0, .slice none 0 0, .slice none 0 0, .slice none 0 0] 90 (0, 0))) ∧ (w'.heap[s_.2]? = some (.cells #[.int .i64 0, .int .i64 0, .int .i64 0, .int .i64 0, .slice none 0 0, .slice none 0 0, .slice none 0 0] 90 (0, 0))) ∧ (w.heap.size ≤ s_.2) ∧ (w.heap.size ≤ s_.2) ∧ (gb167 ≠ s_.2) ∧ (s_.2 ≠ gb167) ∧ (gb168 ≠ s_.2) ∧ (s_.2 ≠ gb168) ∧ (Below w.heap.size w w')) ?_ ?_
       rotate_left
       ·intro hJ11_16
        refine join_ (σ := Value) 5 #[true, true, true, true, true, true, true, true, true, true, true, false, true, true, false, false, false, false] (fun s_ => [(16, s_)]) (fun s_ w' => (w'.cell? ⟨gb167, 0, none⟩ = some (.int .i64 a0_0) ∧ w'.cell? ⟨gb167, 1, none⟩ = some (.int .i64 a0_1) ∧ w'.cell? ⟨gb167, 2, none⟩ = some (.int .i64 a0_2) ∧ w'.cell? ⟨gb167, 3, none⟩ = some (.int .i64 a0_3) ∧ w'.cell? ⟨gb167, 4, none⟩ = some (.slice A0_4 l0_4.length c0_4) ∧ w'.cell? ⟨gb167, 5, none⟩ = some (.slice A0_5 l0_5.length c0_5) ∧ w'.cell? ⟨gb167, 6, none⟩ = some (.slice A0_6 l0_6.length c0_6)) ∧ (Kd.R k178 178 w' w.heap.size (fun _ => True) s_ t169) ∧ (w'.heap[gb167]? = some (.cells #[.int .i64 a0_0, .int .i64 a0_1, .int .i64 a0_2, .int .i64 a0_3, .slice A0_4 l0_4.length c0_4, .slice A0_5 l0_5.length c0_5, .slice A0_6 l0_6.length c0_6] 81 (0, 0))) ∧ (w'.heap[gb168]? = some (.cells #[.int .i64 0, .int .i64 0, .int .i64 0, .int .i64 0, .slice none 0 0, .slice none 0 0, .slice none 0 0] 90 (0, 0))) ∧ (Below w.heap.size w w')) ?_ ?_
        rotate_left
        ·intro hJ10
         refine join_ (σ := Value) 5 #[true, true, true, true, true, true, true, true, true, true, false, true, true, true, false, false, false, false] (fun s_ => [(17, s_)]) (fun s_ w' => (w'.cell? ⟨gb167, 0, none⟩ = some (.int .i64 a0_0) ∧ w'.cell? ⟨gb167, 1, none⟩ = some (.int .i64 a0_1) ∧ w'.cell? ⟨gb167, 2, none⟩ = some (.int .i64 a0_2) ∧ w'.cell? ⟨gb167, 3, none⟩ = some (.int .i64 a0_3) ∧ w'.cell? ⟨gb167, 4, none⟩ = some (.slice A0_4 l0_4.length c0_4) ∧ w'.cell? ⟨gb167, 5, none⟩ = some (.slice A0_5 l0_5.length c0_5) ∧ w'.cell? ⟨gb167, 6, none⟩ = some (.slice A0_6 l0_6.length c0_6)) ∧ (Kd.R (Kd.int .i64) 3 w' w.heap.size (fun _ => True) s_ y172) ∧ (w'.heap[gb167]? = some (.cells #[.int .i64 a0_0, .int .i64 a0_1, .int .i64 a0_2, .int .i64 a0_3, .slice A0_4 l0_4.length c0_4, .slice A0_5 l0_5.length c0_5, .slice A0_6 l0_6.length c0_6] 81 (0, 0))) ∧ (w'.heap[gb168]? = some (.cells #[.int .i64 0, .int .i64 0, .int .i64 0, .int .i64 0, .slice none 0 0, .slice none 0 0, .slice none 0 0] 90 (0, 0))) ∧ (Below w.heap.size w w')) ?_ ?_
         rotate_left
         ·intro hJ11
          refine join_ (σ := Nat) 5 #[true, true, true, true, true, true, true, true, true, true, false, false, true, true, false, false, true, false] (fun s_ => [(3, .pointer (some ⟨s_, 0, none⟩))]) (fun s_ w' => (w'.cell? ⟨gb167, 0, none⟩ = some (.int .i64 a0_0) ∧ w'.cell? ⟨gb167, 1, none⟩ = some (.int .i64 a0_1) ∧ w'.cell? ⟨gb167, 2, none⟩ = some (.int .i64 a0_2) ∧ w'.cell? ⟨gb167, 3, none⟩ = some (.int .i64 a0_3) ∧ w'.cell? ⟨gb167, 4, none⟩ = some (.slice A0_4 l0_4.length c0_4) ∧ w'.cell? ⟨gb167, 5, none⟩ = some (.slice A0_5 l0_5.length c0_5) ∧ w'.cell? ⟨gb167, 6, none⟩ = some (.slice A0_6 l0_6.length c0_6)) ∧ (w'.heap[gb167]? = some (.cells #[.int .i64 a0_0, .int .i64 a0_1, .int .i64 a0_2, .int .i64 a0_3, .slice A0_4 l0_4.length c0_4, .slice A0_5 l0_5.length c0_5, .slice A0_6 l0_6.length c0_6] 81 (0, 0))) ∧ (w'.heap[gb168]? = some (.cells #[.int .i64 0, .int .i64 0, .int .i64 0, .int .i64 0, .slice none 0 0, .slice none 0 0, .slice none 0 0] 90 (0, 0))) ∧ (w'.heap[s_]? = some (.cells #[.int .i64 0, .int .i64 0, .int .i64 0, .int .i64 0, .slice none 0 0, .slice none 0 0, .slice none 0 0] 90 (0, 0))) ∧ (w.heap.size ≤ s_) ∧ (w.heap.size ≤ s_) ∧ (gb167 ≠ s_) ∧ (s_ ≠ gb167) ∧ (gb168 ≠ s_) ∧ (s_ ≠ gb168) ∧ (Below w.heap.size w w')) ?_ ?_
          rotate_left
          ·intro hJ16
           refine three_ (i := 10) (j := 11) (k := 16) (Ni := some 16) (Nj := some 17) (Nk := some 3) #[true, true, true, true, true, true, true, true, true, true, true, false, true, true, false, false, false, false] #[true, true, true, true, true, true, true, true, true, true, false, true, true, true, false, false, false, false] #[true, true, true, true, true, true, true, true, true, true, false, false, true, true, false, false, true, false] rfl rfl rfl rfl rfl rfl (three_of HT_.out (by kernel_rfl)) (by decide) (by decide) (by decide) (fun K hK => ?_) (fun K hK => ?_) (fun K hK => ?_)
           ·skip
            refine goes_ Try.func76 (by kernel_rfl) rfl #[.slice A0_4 l0_4.length c0_4] (by rfl) rfl rfl (by (try simp only [List.map_toArray, List.map_cons, List.map_nil]); first | done | rfl | (simp only [List.length_drop, List.length_take]; rfl)) ?_
            with_reducible refine (stopgatelaw03_To.calls k _ _ l0_4 t169 _ ?side1 ?side2 A2.out).mono ?_
            (case side1 => repeat (first | exact (Kd.C_below HR0_4.out HB.out) | (with_reducible refine Kd.C_alloc ?_ _) | (with_reducible refine Kd.C_drewN ?_ _) | (with_reducible refine Kd.C_drew ?_)))
            (case side2 => exact HC0_4.out)
            rintro e w7 ⟨v170, rfl, ho0, hb⟩
            refine ⟨_, rfl, ?_⟩
            have n0_ := A0s.mk (Kd.R_lower ho0 (below_size (by repeat (first | (with_reducible first | exact HB.out | apply bA | apply bN | apply bD | refine bS ?_ GE167.out | refine bS ?_ GE168.out) | exact HB.out))))
            have n1_ := A0s.mk (blk_below (g := gb167) (o := .cells #[.int .i64 a0_0, .int .i64 a0_1, .int .i64 a0_2, .int .i64 a0_3, .slice A0_4 l0_4.length c0_4, .slice A0_5 l0_5.length c0_5, .slice A0_6 l0_6.length c0_6] 81 (0, 0)) (by (with_reducible repeat (first | apply kN | apply kD | apply kA)); exact BK167.out) hb)
            have n2_ := A0s.mk (blk_below (g := gb168) (o := .cells #[.int .i64 0, .int .i64 0, .int .i64 0, .int .i64 0, .slice none 0 0, .slice none 0 0, .slice none 0 0] 90 (0, 0)) (by (with_reducible repeat (first | apply kN | apply kD | apply kA)); exact BK168.out) hb)
            have n3_ := A0s.mk (below_step (by repeat (first | (with_reducible first | exact HB.out | apply bA | apply bN | apply bD | refine bS ?_ GE167.out | refine bS ?_ GE168.out) | exact HB.out)) hb)
            clear BK167
            clear BK168
            clear HB
            have HO171 := n0_
            have BK167 := n1_
            have BK168 := n2_
            have HB := n3_
            clear n0_ n1_ n2_ n3_
            (try clear hb)
            (try clear hb2)
            (try clear hk)
            (try clear hi)
            (try clear ho0)
            refine hK.out _ _ ⟨(kC BK167.out 0).trans rfl, (kC BK167.out 1).trans rfl, (kC BK167.out 2).trans rfl, (kC BK167.out 3).trans rfl, (kC BK167.out 4).trans rfl, (kC BK167.out 5).trans rfl, (kC BK167.out 6).trans rfl⟩ (fun hHeld => ?_)
            clear hK K
            refine norm_ (a' := ?_) ?_ ?_
            rotate_left
            ·show Act.put _ (some 16) _ = _
             simp only [Act.put, List.setIfInBounds_toArray, List.set_cons_zero, List.set_cons_succ, i64_w, i32_w]
             rfl
            exact norm_ (by first | (simp only [putAll, Act.put, List.setIfInBounds_toArray, List.set_cons_zero, List.set_cons_succ]; done) | (simp only [putAll, Act.put, List.setIfInBounds_toArray, List.set_cons_zero, List.set_cons_succ]; rfl)) (hJ10 (v170) _ ⟨hHeld, (by (with_reducible repeat (first | apply Kd.RA | apply Kd.RN | apply Kd.RD)); exact HO171.out), (by (with_reducible repeat (first | apply kN | apply kD | apply kA)); exact BK167.out), (by (with_reducible repeat (first | apply kN | apply kD | apply kA)); exact BK168.out), (by repeat (first | (with_reducible first | exact HB.out | apply bA | apply bN | apply bD | refine bS ?_ GE167.out | refine bS ?_ GE168.out) | exact HB.out))⟩)
           ·skip
            refine Kd.R_lit_step (Kd.int .i64) _ 3 ?hg (N := 17) ?hd (xs := ([] : List Int)) (inner := []) (ok := fun _ => True) (okp := fun _ => True) ?hr ?hp (fun _ hk => hk) trivial (Below.refl _ _) (Nat.le_refl _) (by simp) ?_; (case hd => rfl); (case hg => rfl); (case hr => first | (go_simp; done) | (go_simp; rfl)); (case hp => exact (Reps.none _ _))
            intro v173 w7 ho8 hb hg_ hnew_
            clear hg_ hnew_
            (first | rw [← Ny172.out] at ho8 | (simp only [Int.reduceToNat] at ho8; rw [← Ny172.out] at ho8))
            have n0_ := A0s.mk (Kd.R_lower ho8 (below_size (by repeat (first | (with_reducible first | exact HB.out | apply bA | apply bN | apply bD | refine bS ?_ GE167.out | refine bS ?_ GE168.out) | exact HB.out))))
            have n1_ := A0s.mk (blk_below (g := gb167) (o := .cells #[.int .i64 a0_0, .int .i64 a0_1, .int .i64 a0_2, .int .i64 a0_3, .slice A0_4 l0_4.length c0_4, .slice A0_5 l0_5.length c0_5, .slice A0_6 l0_6.length c0_6] 81 (0, 0)) (by (with_reducible repeat (first | apply kN | apply kD | apply kA)); exact BK167.out) hb)
            have n2_ := A0s.mk (blk_below (g := gb168) (o := .cells #[.int .i64 0, .int .i64 0, .int .i64 0, .int .i64 0, .slice none 0 0, .slice none 0 0, .slice none 0 0] 90 (0, 0)) (by (with_reducible repeat (first | apply kN | apply kD | apply kA)); exact BK168.out) hb)
            have n3_ := A0s.mk (below_step (by repeat (first | (with_reducible first | exact HB.out | apply bA | apply bN | apply bD | refine bS ?_ GE167.out | refine bS ?_ GE168.out) | exact HB.out)) hb)
            clear BK167
            clear BK168
            clear HB
            have HO174 := n0_
            have BK167 := n1_
            have BK168 := n2_
            have HB := n3_
            clear n0_ n1_ n2_ n3_
            clear hb ho8
            refine hK.out _ _ ⟨(kC BK167.out 0).trans rfl, (kC BK167.out 1).trans rfl, (kC BK167.out 2).trans rfl, (kC BK167.out 3).trans rfl, (kC BK167.out 4).trans rfl, (kC BK167.out 5).trans rfl, (kC BK167.out 6).trans rfl⟩ (fun hHeld => ?_)
            clear hK K
            refine norm_ (a' := ?_) ?_ ?_
            rotate_left
            ·show Act.put _ (some 17) _ = _
             simp only [Act.put, List.setIfInBounds_toArray, List.set_cons_zero, List.set_cons_succ, i64_w, i32_w]
             rfl
            exact norm_ (by first | (simp only [putAll, Act.put, List.setIfInBounds_toArray, List.set_cons_zero, List.set_cons_succ]; done) | (simp only [putAll, Act.put, List.setIfInBounds_toArray, List.set_cons_zero, List.set_cons_succ]; rfl)) (hJ11 (v173) _ ⟨hHeld, (by (with_reducible repeat (first | apply Kd.RA | apply Kd.RN | apply Kd.RD)); exact HO174.out), (by (with_reducible repeat (first | apply kN | apply kD | apply kA)); exact BK167.out), (by (with_reducible repeat (first | apply kN | apply kD | apply kA)); exact BK168.out), (by repeat (first | (with_reducible first | exact HB.out | apply bA | apply bN | apply bD | refine bS ?_ GE167.out | refine bS ?_ GE168.out) | exact HB.out))⟩)
           ·skip
            refine box_step ?hg (N := 3) ?hd (cs := #[.int .i64 0, .int .i64 0, .int .i64 0, .int .i64 0, .slice none 0 0, .slice none 0 0, .slice none 0 0]) (t := 90) ?hr ?_; (case hd => rfl); (case hg => rfl); (case hr => first | (go_simp; done) | (go_simp; rfl))
            intro gb178 hg w7 hbox hb
            have n0_ := A0s.mk (blk_below (g := gb167) (o := .cells #[.int .i64 a0_0, .int .i64 a0_1, .int .i64 a0_2, .int .i64 a0_3, .slice A0_4 l0_4.length c0_4, .slice A0_5 l0_5.length c0_5, .slice A0_6 l0_6.length c0_6] 81 (0, 0)) (by (with_reducible repeat (first | apply kN | apply kD | apply kA)); exact BK167.out) hb)
            have n1_ := A0s.mk (blk_below (g := gb168) (o := .cells #[.int .i64 0, .int .i64 0, .int .i64 0, .int .i64 0, .slice none 0 0, .slice none 0 0, .slice none 0 0] 90 (0, 0)) (by (with_reducible repeat (first | apply kN | apply kD | apply kA)); exact BK168.out) hb)
            have n2_ := A0s.mk (below_step (by repeat (first | (with_reducible first | exact HB.out | apply bA | apply bN | apply bD | refine bS ?_ GE167.out | refine bS ?_ GE168.out) | exact HB.out)) hb)
            have n3_ := A0s.mk (hbox)
            have n4_ := A0s.mk ((by rw [hg]; exact (below_size (by repeat (first | (with_reducible first | exact HB.out | apply bA | apply bN | apply bD | refine bS ?_ GE167.out | refine bS ?_ GE168.out) | exact HB.out))) : w.heap.size ≤ gb178))
            have n5_ := A0s.mk ((by rw [hg]; exact (below_size (by repeat (first | (with_reducible first | exact HB.out | apply bA | apply bN | apply bD | refine bS ?_ GE167.out | refine bS ?_ GE168.out) | exact HB.out))) : w.heap.size ≤ gb178))
            have n6_ := A0s.mk ((by rw [hg]; exact Nat.ne_of_lt (blk_lt (g := gb167) (o := .cells #[.int .i64 a0_0, .int .i64 a0_1, .int .i64 a0_2, .int .i64 a0_3, .slice A0_4 l0_4.length c0_4, .slice A0_5 l0_5.length c0_5, .slice A0_6 l0_6.length c0_6] 81 (0, 0)) (by (with_reducible repeat (first | apply kN | apply kD | apply kA)); exact BK167.out)) : gb167 ≠ gb178))
            have n7_ := A0s.mk ((by rw [hg]; exact Nat.ne_of_gt (blk_lt (g := gb167) (o := .cells #[.int .i64 a0_0, .int .i64 a0_1, .int .i64 a0_2, .int .i64 a0_3, .slice A0_4 l0_4.length c0_4, .slice A0_5 l0_5.length c0_5, .slice A0_6 l0_6.length c0_6] 81 (0, 0)) (by (with_reducible repeat (first | apply kN | apply kD | apply kA)); exact BK167.out)) : gb178 ≠ gb167))
            have n8_ := A0s.mk ((by rw [hg]; exact Nat.ne_of_lt (blk_lt (g := gb168) (o := .cells #[.int .i64 0, .int .i64 0, .int .i64 0, .int .i64 0, .slice none 0 0, .slice none 0 0, .slice none 0 0] 90 (0, 0)) (by (with_reducible repeat (first | apply kN | apply kD | apply kA)); exact BK168.out)) : gb168 ≠ gb178))
            have n9_ := A0s.mk ((by rw [hg]; exact Nat.ne_of_gt (blk_lt (g := gb168) (o := .cells #[.int .i64 0, .int .i64 0, .int .i64 0, .int .i64 0, .slice none 0 0, .slice none 0 0, .slice none 0 0] 90 (0, 0)) (by (with_reducible repeat (first | apply kN | apply kD | apply kA)); exact BK168.out)) : gb178 ≠ gb168))
            clear BK167
            clear BK168
            clear HB
            have BK167 := n0_
            have BK168 := n1_
            have HB := n2_
            have BK178 := n3_
            have GW178 := n4_
            have GE178 := n5_
            have NB167_178 := n6_
            have NB178_167 := n7_
            have NB168_178 := n8_
            have NB178_168 := n9_
            clear n0_ n1_ n2_ n3_ n4_ n5_ n6_ n7_ n8_ n9_
            clear hb hbox hg
            refine hK.out _ _ ⟨(kC BK167.out 0).trans rfl, (kC BK167.out 1).trans rfl, (kC BK167.out 2).trans rfl, (kC BK167.out 3).trans rfl, (kC BK167.out 4).trans rfl, (kC BK167.out 5).trans rfl, (kC BK167.out 6).trans rfl⟩ (fun hHeld => ?_)
            clear hK K
            refine norm_ (a' := ?_) ?_ ?_
            rotate_left
            ·show Act.put _ (some 3) _ = _
             simp only [Act.put, List.setIfInBounds_toArray, List.set_cons_zero, List.set_cons_succ, i64_w, i32_w]
             rfl
            exact norm_ (by first | (simp only [putAll, Act.put, List.setIfInBounds_toArray, List.set_cons_zero, List.set_cons_succ]; done) | (simp only [putAll, Act.put, List.setIfInBounds_toArray, List.set_cons_zero, List.set_cons_succ]; rfl)) (hJ16 (gb178) _ ⟨hHeld, (by (with_reducible repeat (first | apply kN | apply kD | apply kA)); exact BK167.out), (by (with_reducible repeat (first | apply kN | apply kD | apply kA)); exact BK168.out), (by (with_reducible repeat (first | apply kN | apply kD | apply kA)); exact BK178.out), GW178.out, GE178.out, NB167_178.out, NB178_167.out, NB168_178.out, NB178_168.out, (by repeat (first | (with_reducible first | exact HB.out | apply bA | apply bN | apply bD | refine bS ?_ GE167.out | refine bS ?_ GE168.out | refine bS ?_ GE178.out) | exact HB.out))⟩)
          ·skip
           rintro gb178 w8 ⟨hS_, h0_, h1_, h2_, h3_, h4_, h5_, h6_, h7_, h8_, h9_⟩
           have n0_ : A0s (w8.heap[gb167]? = some (.cells #[.int .i64 a0_0, .int .i64 a0_1, .int .i64 a0_2, .int .i64 a0_3, .slice A0_4 l0_4.length c0_4, .slice A0_5 l0_5.length c0_5, .slice A0_6 l0_6.length c0_6] 81 (0, 0))) := ⟨h0_⟩
           have n1_ : A0s (w8.heap[gb168]? = some (.cells #[.int .i64 0, .int .i64 0, .int .i64 0, .int .i64 0, .slice none 0 0, .slice none 0 0, .slice none 0 0] 90 (0, 0))) := ⟨h1_⟩
           have n2_ : A0s (w8.heap[gb178]? = some (.cells #[.int .i64 0, .int .i64 0, .int .i64 0, .int .i64 0, .slice none 0 0, .slice none 0 0, .slice none 0 0] 90 (0, 0))) := ⟨h2_⟩
           have n3_ : A0s (w.heap.size ≤ gb178) := ⟨h3_⟩
           have n4_ : A0s (w.heap.size ≤ gb178) := ⟨h4_⟩
           have n5_ : A0s (gb167 ≠ gb178) := ⟨h5_⟩
           have n6_ : A0s (gb178 ≠ gb167) := ⟨h6_⟩
           have n7_ : A0s (gb168 ≠ gb178) := ⟨h7_⟩
           have n8_ : A0s (gb178 ≠ gb168) := ⟨h8_⟩
           have n9_ : A0s (Below w.heap.size w w8) := ⟨h9_⟩
           clear BK167
           clear BK168
           clear HB
           clear h0_ h1_ h2_ h3_ h4_ h5_ h6_ h7_ h8_ h9_
           have BK167 := n0_
           have BK168 := n1_
           have BK178 := n2_
           have GW178 := n3_
           have GE178 := n4_
           have NB167_178 := n5_
           have NB178_167 := n6_
           have NB168_178 := n7_
           have NB178_168 := n8_
           have HB := n9_
           clear n0_ n1_ n2_ n3_ n4_ n5_ n6_ n7_ n8_ n9_
           have hHeld : w8.cell? ⟨gb167, 0, none⟩ = some (.int .i64 a0_0) ∧ w8.cell? ⟨gb167, 1, none⟩ = some (.int .i64 a0_1) ∧ w8.cell? ⟨gb167, 2, none⟩ = some (.int .i64 a0_2) ∧ w8.cell? ⟨gb167, 3, none⟩ = some (.int .i64 a0_3) ∧ w8.cell? ⟨gb167, 4, none⟩ = some (.slice A0_4 l0_4.length c0_4) ∧ w8.cell? ⟨gb167, 5, none⟩ = some (.slice A0_5 l0_5.length c0_5) ∧ w8.cell? ⟨gb167, 6, none⟩ = some (.slice A0_6 l0_6.length c0_6) := hS_
           refine norm_ (a' := ?_) ?_ ?_
           rotate_left
           ·simp only [putAll, Act.put, List.setIfInBounds_toArray, List.set_cons_zero, List.set_cons_succ]
            rfl
           refine two_ (i := 10) (j := 11) (Ni := some 16) (Nj := some 17) #[true, true, true, true, true, true, true, true, true, true, true, false, true, true, false, false, true, false] #[true, true, true, true, true, true, true, true, true, true, false, true, true, true, false, false, true, false] rfl rfl rfl rfl (two_of HT_.out (by kernel_rfl)) (by decide) (by decide) (fun K hK => ?_) (fun K hK => ?_)
           ·skip
            refine goes_ Try.func76 (by kernel_rfl) rfl #[.slice A0_4 l0_4.length c0_4] (by rfl) rfl rfl (by (try simp only [List.map_toArray, List.map_cons, List.map_nil]); first | done | rfl | (simp only [List.length_drop, List.length_take]; rfl)) ?_
            with_reducible refine (stopgatelaw03_To.calls k _ _ l0_4 t169 _ ?side1 ?side2 A2.out).mono ?_
            (case side1 => repeat (first | exact (Kd.C_below HR0_4.out HB.out) | (with_reducible refine Kd.C_alloc ?_ _) | (with_reducible refine Kd.C_drewN ?_ _) | (with_reducible refine Kd.C_drew ?_)))
            (case side2 => exact HC0_4.out)
            rintro e w9 ⟨v170, rfl, ho0, hb⟩
            refine ⟨_, rfl, ?_⟩
            have n0_ := A0s.mk (Kd.R_lower ho0 (below_size (by repeat (first | (with_reducible first | exact HB.out | apply bA | apply bN | apply bD | refine bS ?_ GE167.out | refine bS ?_ GE168.out | refine bS ?_ GE178.out) | exact HB.out))))
            have n1_ := A0s.mk (blk_below (g := gb167) (o := .cells #[.int .i64 a0_0, .int .i64 a0_1, .int .i64 a0_2, .int .i64 a0_3, .slice A0_4 l0_4.length c0_4, .slice A0_5 l0_5.length c0_5, .slice A0_6 l0_6.length c0_6] 81 (0, 0)) (by (with_reducible repeat (first | apply kN | apply kD | apply kA)); exact BK167.out) hb)
            have n2_ := A0s.mk (blk_below (g := gb168) (o := .cells #[.int .i64 0, .int .i64 0, .int .i64 0, .int .i64 0, .slice none 0 0, .slice none 0 0, .slice none 0 0] 90 (0, 0)) (by (with_reducible repeat (first | apply kN | apply kD | apply kA)); exact BK168.out) hb)
            have n3_ := A0s.mk (blk_below (g := gb178) (o := .cells #[.int .i64 0, .int .i64 0, .int .i64 0, .int .i64 0, .slice none 0 0, .slice none 0 0, .slice none 0 0] 90 (0, 0)) (by (with_reducible repeat (first | apply kN | apply kD | apply kA)); exact BK178.out) hb)
            have n4_ := A0s.mk (below_step (by repeat (first | (with_reducible first | exact HB.out | apply bA | apply bN | apply bD | refine bS ?_ GE167.out | refine bS ?_ GE168.out | refine bS ?_ GE178.out) | exact HB.out)) hb)
            clear BK167
            clear BK168
            clear BK178
            clear HB
            have HO171 := n0_
            have BK167 := n1_
            have BK168 := n2_
            have BK178 := n3_
            have HB := n4_
            clear n0_ n1_ n2_ n3_ n4_
            (try clear hb)
            (try clear hb2)
            (try clear hk)
            (try clear hi)
            (try clear ho0)
            refine hK.out _ _ ⟨(kC BK167.out 0).trans rfl, (kC BK167.out 1).trans rfl, (kC BK167.out 2).trans rfl, (kC BK167.out 3).trans rfl, (kC BK167.out 4).trans rfl, (kC BK167.out 5).trans rfl, (kC BK167.out 6).trans rfl⟩ (fun hHeld => ?_)
            clear hK K
            refine norm_ (a' := ?_) ?_ ?_
            rotate_left
            ·show Act.put _ (some 16) _ = _
             simp only [Act.put, List.setIfInBounds_toArray, List.set_cons_zero, List.set_cons_succ, i64_w, i32_w]
             rfl
            exact norm_ (by first | (simp only [putAll, Act.put, List.setIfInBounds_toArray, List.set_cons_zero, List.set_cons_succ]; done) | (simp only [putAll, Act.put, List.setIfInBounds_toArray, List.set_cons_zero, List.set_cons_succ]; rfl)) (hJ10_16 (v170, gb178) _ ⟨hHeld, (by (with_reducible repeat (first | apply Kd.RA | apply Kd.RN | apply Kd.RD)); exact HO171.out), (by (with_reducible repeat (first | apply kN | apply kD | apply kA)); exact BK167.out), (by (with_reducible repeat (first | apply kN | apply kD | apply kA)); exact BK168.out), (by (with_reducible repeat (first | apply kN | apply kD | apply kA)); exact BK178.out), GW178.out, GE178.out, NB167_178.out, NB178_167.out, NB168_178.out, NB178_168.out, (by repeat (first | (with_reducible first | exact HB.out | apply bA | apply bN | apply bD | refine bS ?_ GE167.out | refine bS ?_ GE168.out | refine bS ?_ GE178.out) | exact HB.out))⟩)
           ·skip
            refine Kd.R_lit_step (Kd.int .i64) _ 3 ?hg (N := 17) ?hd (xs := ([] : List Int)) (inner := []) (ok := fun _ => True) (okp := fun _ => True) ?hr ?hp (fun _ hk => hk) trivial (Below.refl _ _) (Nat.le_refl _) (by simp) ?_; (case hd => rfl); (case hg => rfl); (case hr => first | (go_simp; done) | (go_simp; rfl)); (case hp => exact (Reps.none _ _))
            intro v173 w9 ho10 hb hg_ hnew_
            clear hg_ hnew_
            (first | rw [← Ny172.out] at ho10 | (simp only [Int.reduceToNat] at ho10; rw [← Ny172.out] at ho10))
            have n0_ := A0s.mk (Kd.R_lower ho10 (below_size (by repeat (first | (with_reducible first | exact HB.out | apply bA | apply bN | apply bD | refine bS ?_ GE167.out | refine bS ?_ GE168.out | refine bS ?_ GE178.out) | exact HB.out))))
            have n1_ := A0s.mk (blk_below (g := gb167) (o := .cells #[.int .i64 a0_0, .int .i64 a0_1, .int .i64 a0_2, .int .i64 a0_3, .slice A0_4 l0_4.length c0_4, .slice A0_5 l0_5.length c0_5, .slice A0_6 l0_6.length c0_6] 81 (0, 0)) (by (with_reducible repeat (first | apply kN | apply kD | apply kA)); exact BK167.out) hb)
            have n2_ := A0s.mk (blk_below (g := gb168) (o := .cells #[.int .i64 0, .int .i64 0, .int .i64 0, .int .i64 0, .slice none 0 0, .slice none 0 0, .slice none 0 0] 90 (0, 0)) (by (with_reducible repeat (first | apply kN | apply kD | apply kA)); exact BK168.out) hb)
            have n3_ := A0s.mk (blk_below (g := gb178) (o := .cells #[.int .i64 0, .int .i64 0, .int .i64 0, .int .i64 0, .slice none 0 0, .slice none 0 0, .slice none 0 0] 90 (0, 0)) (by (with_reducible repeat (first | apply kN | apply kD | apply kA)); exact BK178.out) hb)
            have n4_ := A0s.mk (below_step (by repeat (first | (with_reducible first | exact HB.out | apply bA | apply bN | apply bD | refine bS ?_ GE167.out | refine bS ?_ GE168.out | refine bS ?_ GE178.out) | exact HB.out)) hb)
            clear BK167
            clear BK168
            clear BK178
            clear HB
            have HO174 := n0_
            have BK167 := n1_
            have BK168 := n2_
            have BK178 := n3_
            have HB := n4_
            clear n0_ n1_ n2_ n3_ n4_
            clear hb ho10
            refine hK.out _ _ ⟨(kC BK167.out 0).trans rfl, (kC BK167.out 1).trans rfl, (kC BK167.out 2).trans rfl, (kC BK167.out 3).trans rfl, (kC BK167.out 4).trans rfl, (kC BK167.out 5).trans rfl, (kC BK167.out 6).trans rfl⟩ (fun hHeld => ?_)
            clear hK K
            refine norm_ (a' := ?_) ?_ ?_
            rotate_left
            ·show Act.put _ (some 17) _ = _
             simp only [Act.put, List.setIfInBounds_toArray, List.set_cons_zero, List.set_cons_succ, i64_w, i32_w]
             rfl
            exact norm_ (by first | (simp only [putAll, Act.put, List.setIfInBounds_toArray, List.set_cons_zero, List.set_cons_succ]; done) | (simp only [putAll, Act.put, List.setIfInBounds_toArray, List.set_cons_zero, List.set_cons_succ]; rfl)) (hJ11_16 (v173, gb178) _ ⟨hHeld, (by (with_reducible repeat (first | apply Kd.RA | apply Kd.RN | apply Kd.RD)); exact HO174.out), (by (with_reducible repeat (first | apply kN | apply kD | apply kA)); exact BK167.out), (by (with_reducible repeat (first | apply kN | apply kD | apply kA)); exact BK168.out), (by (with_reducible repeat (first | apply kN | apply kD | apply kA)); exact BK178.out), GW178.out, GE178.out, NB167_178.out, NB178_167.out, NB168_178.out, NB178_168.out, (by repeat (first | (with_reducible first | exact HB.out | apply bA | apply bN | apply bD | refine bS ?_ GE167.out | refine bS ?_ GE168.out | refine bS ?_ GE178.out) | exact HB.out))⟩)
         ·skip
          rintro v173 w9 ⟨hS_, h0_, h1_, h2_, h3_⟩
          have n0_ : A0s (Kd.R (Kd.int .i64) 3 w9 w.heap.size (fun _ => True) v173 y172) := ⟨h0_⟩
          have n1_ : A0s (w9.heap[gb167]? = some (.cells #[.int .i64 a0_0, .int .i64 a0_1, .int .i64 a0_2, .int .i64 a0_3, .slice A0_4 l0_4.length c0_4, .slice A0_5 l0_5.length c0_5, .slice A0_6 l0_6.length c0_6] 81 (0, 0))) := ⟨h1_⟩
          have n2_ : A0s (w9.heap[gb168]? = some (.cells #[.int .i64 0, .int .i64 0, .int .i64 0, .int .i64 0, .slice none 0 0, .slice none 0 0, .slice none 0 0] 90 (0, 0))) := ⟨h2_⟩
          have n3_ : A0s (Below w.heap.size w w9) := ⟨h3_⟩
          clear BK167
          clear BK168
          clear HB
          clear h0_ h1_ h2_ h3_
          have HO174 := n0_
          have BK167 := n1_
          have BK168 := n2_
          have HB := n3_
          clear n0_ n1_ n2_ n3_
          have hHeld : w9.cell? ⟨gb167, 0, none⟩ = some (.int .i64 a0_0) ∧ w9.cell? ⟨gb167, 1, none⟩ = some (.int .i64 a0_1) ∧ w9.cell? ⟨gb167, 2, none⟩ = some (.int .i64 a0_2) ∧ w9.cell? ⟨gb167, 3, none⟩ = some (.int .i64 a0_3) ∧ w9.cell? ⟨gb167, 4, none⟩ = some (.slice A0_4 l0_4.length c0_4) ∧ w9.cell? ⟨gb167, 5, none⟩ = some (.slice A0_5 l0_5.length c0_5) ∧ w9.cell? ⟨gb167, 6, none⟩ = some (.slice A0_6 l0_6.length c0_6) := hS_
          refine norm_ (a' := ?_) ?_ ?_
          rotate_left
          ·simp only [putAll, Act.put, List.setIfInBounds_toArray, List.set_cons_zero, List.set_cons_succ]
           rfl
          refine two_ (i := 10) (j := 16) (Ni := some 16) (Nj := some 3) #[true, true, true, true, true, true, true, true, true, true, true, true, true, true, false, false, false, false] #[true, true, true, true, true, true, true, true, true, true, false, true, true, true, false, false, true, false] rfl rfl rfl rfl (two_of HT_.out (by kernel_rfl)) (by decide) (by decide) (fun K hK => ?_) (fun K hK => ?_)
          ·skip
           refine goes_ Try.func76 (by kernel_rfl) rfl #[.slice A0_4 l0_4.length c0_4] (by rfl) rfl rfl (by (try simp only [List.map_toArray, List.map_cons, List.map_nil]); first | done | rfl | (simp only [List.length_drop, List.length_take]; rfl)) ?_
           with_reducible refine (stopgatelaw03_To.calls k _ _ l0_4 t169 _ ?side1 ?side2 A2.out).mono ?_
           (case side1 => repeat (first | exact (Kd.C_below HR0_4.out HB.out) | (with_reducible refine Kd.C_alloc ?_ _) | (with_reducible refine Kd.C_drewN ?_ _) | (with_reducible refine Kd.C_drew ?_)))
           (case side2 => exact HC0_4.out)
           rintro e w10 ⟨v170, rfl, ho0, hb⟩
           refine ⟨_, rfl, ?_⟩
           have n0_ := A0s.mk (Kd.R_below (by (with_reducible repeat (first | apply Kd.RA | apply Kd.RN | apply Kd.RD)); exact HO174.out) hb)
           have n1_ := A0s.mk (Kd.R_lower ho0 (below_size (by repeat (first | (with_reducible first | exact HB.out | apply bA | apply bN | apply bD | refine bS ?_ GE167.out | refine bS ?_ GE168.out) | exact HB.out))))
           have n2_ := A0s.mk (blk_below (g := gb167) (o := .cells #[.int .i64 a0_0, .int .i64 a0_1, .int .i64 a0_2, .int .i64 a0_3, .slice A0_4 l0_4.length c0_4, .slice A0_5 l0_5.length c0_5, .slice A0_6 l0_6.length c0_6] 81 (0, 0)) (by (with_reducible repeat (first | apply kN | apply kD | apply kA)); exact BK167.out) hb)
           have n3_ := A0s.mk (blk_below (g := gb168) (o := .cells #[.int .i64 0, .int .i64 0, .int .i64 0, .int .i64 0, .slice none 0 0, .slice none 0 0, .slice none 0 0] 90 (0, 0)) (by (with_reducible repeat (first | apply kN | apply kD | apply kA)); exact BK168.out) hb)
           have n4_ := A0s.mk (below_step (by repeat (first | (with_reducible first | exact HB.out | apply bA | apply bN | apply bD | refine bS ?_ GE167.out | refine bS ?_ GE168.out) | exact HB.out)) hb)
           clear HO174
           clear BK167
           clear BK168
           clear HB
           have HO174 := n0_
           have HO171 := n1_
           have BK167 := n2_
           have BK168 := n3_
           have HB := n4_
           clear n0_ n1_ n2_ n3_ n4_
           (try clear hb)
           (try clear hb2)
           (try clear hk)
           (try clear hi)
           (try clear ho0)
           refine hK.out _ _ ⟨(kC BK167.out 0).trans rfl, (kC BK167.out 1).trans rfl, (kC BK167.out 2).trans rfl, (kC BK167.out 3).trans rfl, (kC BK167.out 4).trans rfl, (kC BK167.out 5).trans rfl, (kC BK167.out 6).trans rfl⟩ (fun hHeld => ?_)
           clear hK K
           refine norm_ (a' := ?_) ?_ ?_
           rotate_left
           ·show Act.put _ (some 16) _ = _
            simp only [Act.put, List.setIfInBounds_toArray, List.set_cons_zero, List.set_cons_succ, i64_w, i32_w]
            rfl
           exact norm_ (by first | (simp only [putAll, Act.put, List.setIfInBounds_toArray, List.set_cons_zero, List.set_cons_succ]; done) | (simp only [putAll, Act.put, List.setIfInBounds_toArray, List.set_cons_zero, List.set_cons_succ]; rfl)) (hJ10_11 (v170, v173) _ ⟨hHeld, (by (with_reducible repeat (first | apply Kd.RA | apply Kd.RN | apply Kd.RD)); exact HO171.out), (by (with_reducible repeat (first | apply Kd.RA | apply Kd.RN | apply Kd.RD)); exact HO174.out), (by (with_reducible repeat (first | apply kN | apply kD | apply kA)); exact BK167.out), (by (with_reducible repeat (first | apply kN | apply kD | apply kA)); exact BK168.out), (by repeat (first | (with_reducible first | exact HB.out | apply bA | apply bN | apply bD | refine bS ?_ GE167.out | refine bS ?_ GE168.out) | exact HB.out))⟩)
          ·skip
           refine box_step ?hg (N := 3) ?hd (cs := #[.int .i64 0, .int .i64 0, .int .i64 0, .int .i64 0, .slice none 0 0, .slice none 0 0, .slice none 0 0]) (t := 90) ?hr ?_; (case hd => rfl); (case hg => rfl); (case hr => first | (go_simp; done) | (go_simp; rfl))
           intro gb178 hg w10 hbox hb
           have n0_ := A0s.mk (Kd.R_below (by (with_reducible repeat (first | apply Kd.RA | apply Kd.RN | apply Kd.RD)); exact HO174.out) hb)
           have n1_ := A0s.mk (blk_below (g := gb167) (o := .cells #[.int .i64 a0_0, .int .i64 a0_1, .int .i64 a0_2, .int .i64 a0_3, .slice A0_4 l0_4.length c0_4, .slice A0_5 l0_5.length c0_5, .slice A0_6 l0_6.length c0_6] 81 (0, 0)) (by (with_reducible repeat (first | apply kN | apply kD | apply kA)); exact BK167.out) hb)
           have n2_ := A0s.mk (blk_below (g := gb168) (o := .cells #[.int .i64 0, .int .i64 0, .int .i64 0, .int .i64 0, .slice none 0 0, .slice none 0 0, .slice none 0 0] 90 (0, 0)) (by (with_reducible repeat (first | apply kN | apply kD | apply kA)); exact BK168.out) hb)
           have n3_ := A0s.mk (below_step (by repeat (first | (with_reducible first | exact HB.out | apply bA | apply bN | apply bD | refine bS ?_ GE167.out | refine bS ?_ GE168.out) | exact HB.out)) hb)
           have n4_ := A0s.mk (hbox)
           have n5_ := A0s.mk ((by rw [hg]; exact (below_size (by repeat (first | (with_reducible first | exact HB.out | apply bA | apply bN | apply bD | refine bS ?_ GE167.out | refine bS ?_ GE168.out) | exact HB.out))) : w.heap.size ≤ gb178))
           have n6_ := A0s.mk ((by rw [hg]; exact (below_size (by repeat (first | (with_reducible first | exact HB.out | apply bA | apply bN | apply bD | refine bS ?_ GE167.out | refine bS ?_ GE168.out) | exact HB.out))) : w.heap.size ≤ gb178))
           have n7_ := A0s.mk ((by rw [hg]; exact Nat.ne_of_lt (blk_lt (g := gb167) (o := .cells #[.int .i64 a0_0, .int .i64 a0_1, .int .i64 a0_2, .int .i64 a0_3, .slice A0_4 l0_4.length c0_4, .slice A0_5 l0_5.length c0_5, .slice A0_6 l0_6.length c0_6] 81 (0, 0)) (by (with_reducible repeat (first | apply kN | apply kD | apply kA)); exact BK167.out)) : gb167 ≠ gb178))
           have n8_ := A0s.mk ((by rw [hg]; exact Nat.ne_of_gt (blk_lt (g := gb167) (o := .cells #[.int .i64 a0_0, .int .i64 a0_1, .int .i64 a0_2, .int .i64 a0_3, .slice A0_4 l0_4.length c0_4, .slice A0_5 l0_5.length c0_5, .slice A0_6 l0_6.length c0_6] 81 (0, 0)) (by (with_reducible repeat (first | apply kN | apply kD | apply kA)); exact BK167.out)) : gb178 ≠ gb167))
           have n9_ := A0s.mk ((by rw [hg]; exact Nat.ne_of_lt (blk_lt (g := gb168) (o := .cells #[.int .i64 0, .int .i64 0, .int .i64 0, .int .i64 0, .slice none 0 0, .slice none 0 0, .slice none 0 0] 90 (0, 0)) (by (with_reducible repeat (first | apply kN | apply kD | apply kA)); exact BK168.out)) : gb168 ≠ gb178))
           have n10_ := A0s.mk ((by rw [hg]; exact Nat.ne_of_gt (blk_lt (g := gb168) (o := .cells #[.int .i64 0, .int .i64 0, .int .i64 0, .int .i64 0, .slice none 0 0, .slice none 0 0, .slice none 0 0] 90 (0, 0)) (by (with_reducible repeat (first | apply kN | apply kD | apply kA)); exact BK168.out)) : gb178 ≠ gb168))
           clear HO174
           clear BK167
           clear BK168
           clear HB
           have HO174 := n0_
           have BK167 := n1_
           have BK168 := n2_
           have HB := n3_
           have BK178 := n4_
           have GW178 := n5_
           have GE178 := n6_
           have NB167_178 := n7_
           have NB178_167 := n8_
           have NB168_178 := n9_
           have NB178_168 := n10_
           clear n0_ n1_ n2_ n3_ n4_ n5_ n6_ n7_ n8_ n9_ n10_
           clear hb hbox hg
           refine hK.out _ _ ⟨(kC BK167.out 0).trans rfl, (kC BK167.out 1).trans rfl, (kC BK167.out 2).trans rfl, (kC BK167.out 3).trans rfl, (kC BK167.out 4).trans rfl, (kC BK167.out 5).trans rfl, (kC BK167.out 6).trans rfl⟩ (fun hHeld => ?_)
           clear hK K
           refine norm_ (a' := ?_) ?_ ?_
           rotate_left
           ·show Act.put _ (some 3) _ = _
            simp only [Act.put, List.setIfInBounds_toArray, List.set_cons_zero, List.set_cons_succ, i64_w, i32_w]
            rfl
           exact norm_ (by first | (simp only [putAll, Act.put, List.setIfInBounds_toArray, List.set_cons_zero, List.set_cons_succ]; done) | (simp only [putAll, Act.put, List.setIfInBounds_toArray, List.set_cons_zero, List.set_cons_succ]; rfl)) (hJ11_16 (v173, gb178) _ ⟨hHeld, (by (with_reducible repeat (first | apply Kd.RA | apply Kd.RN | apply Kd.RD)); exact HO174.out), (by (with_reducible repeat (first | apply kN | apply kD | apply kA)); exact BK167.out), (by (with_reducible repeat (first | apply kN | apply kD | apply kA)); exact BK168.out), (by (with_reducible repeat (first | apply kN | apply kD | apply kA)); exact BK178.out), GW178.out, GE178.out, NB167_178.out, NB178_167.out, NB168_178.out, NB178_168.out, (by repeat (first | (with_reducible first | exact HB.out | apply bA | apply bN | apply bD | refine bS ?_ GE167.out | refine bS ?_ GE168.out | refine bS ?_ GE178.out) | exact HB.out))⟩)
        ·skip
         rintro v170 w8 ⟨hS_, h0_, h1_, h2_, h3_⟩
         have n0_ : A0s (Kd.R k178 178 w8 w.heap.size (fun _ => True) v170 t169) := ⟨h0_⟩
         have n1_ : A0s (w8.heap[gb167]? = some (.cells #[.int .i64 a0_0, .int .i64 a0_1, .int .i64 a0_2, .int .i64 a0_3, .slice A0_4 l0_4.length c0_4, .slice A0_5 l0_5.length c0_5, .slice A0_6 l0_6.length c0_6] 81 (0, 0))) := ⟨h1_⟩
         have n2_ : A0s (w8.heap[gb168]? = some (.cells #[.int .i64 0, .int .i64 0, .int .i64 0, .int .i64 0, .slice none 0 0, .slice none 0 0, .slice none 0 0] 90 (0, 0))) := ⟨h2_⟩
         have n3_ : A0s (Below w.heap.size w w8) := ⟨h3_⟩
         clear BK167
         clear BK168
         clear HB
         clear h0_ h1_ h2_ h3_
         have HO171 := n0_
         have BK167 := n1_
         have BK168 := n2_
         have HB := n3_
         clear n0_ n1_ n2_ n3_
         have hHeld : w8.cell? ⟨gb167, 0, none⟩ = some (.int .i64 a0_0) ∧ w8.cell? ⟨gb167, 1, none⟩ = some (.int .i64 a0_1) ∧ w8.cell? ⟨gb167, 2, none⟩ = some (.int .i64 a0_2) ∧ w8.cell? ⟨gb167, 3, none⟩ = some (.int .i64 a0_3) ∧ w8.cell? ⟨gb167, 4, none⟩ = some (.slice A0_4 l0_4.length c0_4) ∧ w8.cell? ⟨gb167, 5, none⟩ = some (.slice A0_5 l0_5.length c0_5) ∧ w8.cell? ⟨gb167, 6, none⟩ = some (.slice A0_6 l0_6.length c0_6) := hS_
         refine norm_ (a' := ?_) ?_ ?_
         rotate_left
         ·simp only [putAll, Act.put, List.setIfInBounds_toArray, List.set_cons_zero, List.set_cons_succ]
          rfl
         refine two_ (i := 11) (j := 16) (Ni := some 17) (Nj := some 3) #[true, true, true, true, true, true, true, true, true, true, true, true, true, true, false, false, false, false] #[true, true, true, true, true, true, true, true, true, true, true, false, true, true, false, false, true, false] rfl rfl rfl rfl (two_of HT_.out (by kernel_rfl)) (by decide) (by decide) (fun K hK => ?_) (fun K hK => ?_)
         ·skip
          refine Kd.R_lit_step (Kd.int .i64) _ 3 ?hg (N := 17) ?hd (xs := ([] : List Int)) (inner := []) (ok := fun _ => True) (okp := fun _ => True) ?hr ?hp (fun _ hk => hk) trivial (Below.refl _ _) (Nat.le_refl _) (by simp) ?_; (case hd => rfl); (case hg => rfl); (case hr => first | (go_simp; done) | (go_simp; rfl)); (case hp => exact (Reps.none _ _))
          intro v173 w9 ho10 hb hg_ hnew_
          clear hg_ hnew_
          (first | rw [← Ny172.out] at ho10 | (simp only [Int.reduceToNat] at ho10; rw [← Ny172.out] at ho10))
          have n0_ := A0s.mk (Kd.R_below (by (with_reducible repeat (first | apply Kd.RA | apply Kd.RN | apply Kd.RD)); exact HO171.out) hb)
          have n1_ := A0s.mk (Kd.R_lower ho10 (below_size (by repeat (first | (with_reducible first | exact HB.out | apply bA | apply bN | apply bD | refine bS ?_ GE167.out | refine bS ?_ GE168.out) | exact HB.out))))
          have n2_ := A0s.mk (blk_below (g := gb167) (o := .cells #[.int .i64 a0_0, .int .i64 a0_1, .int .i64 a0_2, .int .i64 a0_3, .slice A0_4 l0_4.length c0_4, .slice A0_5 l0_5.length c0_5, .slice A0_6 l0_6.length c0_6] 81 (0, 0)) (by (with_reducible repeat (first | apply kN | apply kD | apply kA)); exact BK167.out) hb)
          have n3_ := A0s.mk (blk_below (g := gb168) (o := .cells #[.int .i64 0, .int .i64 0, .int .i64 0, .int .i64 0, .slice none 0 0, .slice none 0 0, .slice none 0 0] 90 (0, 0)) (by (with_reducible repeat (first | apply kN | apply kD | apply kA)); exact BK168.out) hb)
          have n4_ := A0s.mk (below_step (by repeat (first | (with_reducible first | exact HB.out | apply bA | apply bN | apply bD | refine bS ?_ GE167.out | refine bS ?_ GE168.out) | exact HB.out)) hb)
          clear HO171
          clear BK167
          clear BK168
          clear HB
          have HO171 := n0_
          have HO174 := n1_
          have BK167 := n2_
          have BK168 := n3_
          have HB := n4_
          clear n0_ n1_ n2_ n3_ n4_
          clear hb ho10
          refine hK.out _ _ ⟨(kC BK167.out 0).trans rfl, (kC BK167.out 1).trans rfl, (kC BK167.out 2).trans rfl, (kC BK167.out 3).trans rfl, (kC BK167.out 4).trans rfl, (kC BK167.out 5).trans rfl, (kC BK167.out 6).trans rfl⟩ (fun hHeld => ?_)
          clear hK K
          refine norm_ (a' := ?_) ?_ ?_
          rotate_left
          ·show Act.put _ (some 17) _ = _
           simp only [Act.put, List.setIfInBounds_toArray, List.set_cons_zero, List.set_cons_succ, i64_w, i32_w]
           rfl
          exact norm_ (by first | (simp only [putAll, Act.put, List.setIfInBounds_toArray, List.set_cons_zero, List.set_cons_succ]; done) | (simp only [putAll, Act.put, List.setIfInBounds_toArray, List.set_cons_zero, List.set_cons_succ]; rfl)) (hJ10_11 (v170, v173) _ ⟨hHeld, (by (with_reducible repeat (first | apply Kd.RA | apply Kd.RN | apply Kd.RD)); exact HO171.out), (by (with_reducible repeat (first | apply Kd.RA | apply Kd.RN | apply Kd.RD)); exact HO174.out), (by (with_reducible repeat (first | apply kN | apply kD | apply kA)); exact BK167.out), (by (with_reducible repeat (first | apply kN | apply kD | apply kA)); exact BK168.out), (by repeat (first | (with_reducible first | exact HB.out | apply bA | apply bN | apply bD | refine bS ?_ GE167.out | refine bS ?_ GE168.out) | exact HB.out))⟩)
         ·skip
          refine box_step ?hg (N := 3) ?hd (cs := #[.int .i64 0, .int .i64 0, .int .i64 0, .int .i64 0, .slice none 0 0, .slice none 0 0, .slice none 0 0]) (t := 90) ?hr ?_; (case hd => rfl); (case hg => rfl); (case hr => first | (go_simp; done) | (go_simp; rfl))
          intro gb178 hg w9 hbox hb
          have n0_ := A0s.mk (Kd.R_below (by (with_reducible repeat (first | apply Kd.RA | apply Kd.RN | apply Kd.RD)); exact HO171.out) hb)
          have n1_ := A0s.mk (blk_below (g := gb167) (o := .cells #[.int .i64 a0_0, .int .i64 a0_1, .int .i64 a0_2, .int .i64 a0_3, .slice A0_4 l0_4.length c0_4, .slice A0_5 l0_5.length c0_5, .slice A0_6 l0_6.length c0_6] 81 (0, 0)) (by (with_reducible repeat (first | apply kN | apply kD | apply kA)); exact BK167.out) hb)
          have n2_ := A0s.mk (blk_below (g := gb168) (o := .cells #[.int .i64 0, .int .i64 0, .int .i64 0, .int .i64 0, .slice none 0 0, .slice none 0 0, .slice none 0 0] 90 (0, 0)) (by (with_reducible repeat (first | apply kN | apply kD | apply kA)); exact BK168.out) hb)
          have n3_ := A0s.mk (below_step (by repeat (first | (with_reducible first | exact HB.out | apply bA | apply bN | apply bD | refine bS ?_ GE167.out | refine bS ?_ GE168.out) | exact HB.out)) hb)
          have n4_ := A0s.mk (hbox)
          have n5_ := A0s.mk ((by rw [hg]; exact (below_size (by repeat (first | (with_reducible first | exact HB.out | apply bA | apply bN | apply bD | refine bS ?_ GE167.out | refine bS ?_ GE168.out) | exact HB.out))) : w.heap.size ≤ gb178))
          have n6_ := A0s.mk ((by rw [hg]; exact (below_size (by repeat (first | (with_reducible first | exact HB.out | apply bA | apply bN | apply bD | refine bS ?_ GE167.out | refine bS ?_ GE168.out) | exact HB.out))) : w.heap.size ≤ gb178))
          have n7_ := A0s.mk ((by rw [hg]; exact Nat.ne_of_lt (blk_lt (g := gb167) (o := .cells #[.int .i64 a0_0, .int .i64 a0_1, .int .i64 a0_2, .int .i64 a0_3, .slice A0_4 l0_4.length c0_4, .slice A0_5 l0_5.length c0_5, .slice A0_6 l0_6.length c0_6] 81 (0, 0)) (by (with_reducible repeat (first | apply kN | apply kD | apply kA)); exact BK167.out)) : gb167 ≠ gb178))
          have n8_ := A0s.mk ((by rw [hg]; exact Nat.ne_of_gt (blk_lt (g := gb167) (o := .cells #[.int .i64 a0_0, .int .i64 a0_1, .int .i64 a0_2, .int .i64 a0_3, .slice A0_4 l0_4.length c0_4, .slice A0_5 l0_5.length c0_5, .slice A0_6 l0_6.length c0_6] 81 (0, 0)) (by (with_reducible repeat (first | apply kN | apply kD | apply kA)); exact BK167.out)) : gb178 ≠ gb167))
          have n9_ := A0s.mk ((by rw [hg]; exact Nat.ne_of_lt (blk_lt (g := gb168) (o := .cells #[.int .i64 0, .int .i64 0, .int .i64 0, .int .i64 0, .slice none 0 0, .slice none 0 0, .slice none 0 0] 90 (0, 0)) (by (with_reducible repeat (first | apply kN | apply kD | apply kA)); exact BK168.out)) : gb168 ≠ gb178))
          have n10_ := A0s.mk ((by rw [hg]; exact Nat.ne_of_gt (blk_lt (g := gb168) (o := .cells #[.int .i64 0, .int .i64 0, .int .i64 0, .int .i64 0, .slice none 0 0, .slice none 0 0, .slice none 0 0] 90 (0, 0)) (by (with_reducible repeat (first | apply kN | apply kD | apply kA)); exact BK168.out)) : gb178 ≠ gb168))
          clear HO171
          clear BK167
          clear BK168
          clear HB
          have HO171 := n0_
          have BK167 := n1_
          have BK168 := n2_
          have HB := n3_
          have BK178 := n4_
          have GW178 := n5_
          have GE178 := n6_
          have NB167_178 := n7_
          have NB178_167 := n8_
          have NB168_178 := n9_
          have NB178_168 := n10_
          clear n0_ n1_ n2_ n3_ n4_ n5_ n6_ n7_ n8_ n9_ n10_
          clear hb hbox hg
          refine hK.out _ _ ⟨(kC BK167.out 0).trans rfl, (kC BK167.out 1).trans rfl, (kC BK167.out 2).trans rfl, (kC BK167.out 3).trans rfl, (kC BK167.out 4).trans rfl, (kC BK167.out 5).trans rfl, (kC BK167.out 6).trans rfl⟩ (fun hHeld => ?_)
          clear hK K
          refine norm_ (a' := ?_) ?_ ?_
          rotate_left
          ·show Act.put _ (some 3) _ = _
           simp only [Act.put, List.setIfInBounds_toArray, List.set_cons_zero, List.set_cons_succ, i64_w, i32_w]
           rfl
          exact norm_ (by first | (simp only [putAll, Act.put, List.setIfInBounds_toArray, List.set_cons_zero, List.set_cons_succ]; done) | (simp only [putAll, Act.put, List.setIfInBounds_toArray, List.set_cons_zero, List.set_cons_succ]; rfl)) (hJ10_16 (v170, gb178) _ ⟨hHeld, (by (with_reducible repeat (first | apply Kd.RA | apply Kd.RN | apply Kd.RD)); exact HO171.out), (by (with_reducible repeat (first | apply kN | apply kD | apply kA)); exact BK167.out), (by (with_reducible repeat (first | apply kN | apply kD | apply kA)); exact BK168.out), (by (with_reducible repeat (first | apply kN | apply kD | apply kA)); exact BK178.out), GW178.out, GE178.out, NB167_178.out, NB178_167.out, NB168_178.out, NB178_168.out, (by repeat (first | (with_reducible first | exact HB.out | apply bA | apply bN | apply bD | refine bS ?_ GE167.out | refine bS ?_ GE168.out | refine bS ?_ GE178.out) | exact HB.out))⟩)
       ·skip
        rintro ⟨v173, gb178⟩ w10 ⟨hS_, h0_, h1_, h2_, h3_, h4_, h5_, h6_, h7_, h8_, h9_, h10_⟩
        have n0_ : A0s (Kd.R (Kd.int .i64) 3 w10 w.heap.size (fun _ => True) v173 y172) := ⟨h0_⟩
        have n1_ : A0s (w10.heap[gb167]? = some (.cells #[.int .i64 a0_0, .int .i64 a0_1, .int .i64 a0_2, .int .i64 a0_3, .slice A0_4 l0_4.length c0_4, .slice A0_5 l0_5.length c0_5, .slice A0_6 l0_6.length c0_6] 81 (0, 0))) := ⟨h1_⟩
        have n2_ : A0s (w10.heap[gb168]? = some (.cells #[.int .i64 0, .int .i64 0, .int .i64 0, .int .i64 0, .slice none 0 0, .slice none 0 0, .slice none 0 0] 90 (0, 0))) := ⟨h2_⟩
        have n3_ : A0s (w10.heap[gb178]? = some (.cells #[.int .i64 0, .int .i64 0, .int .i64 0, .int .i64 0, .slice none 0 0, .slice none 0 0, .slice none 0 0] 90 (0, 0))) := ⟨h3_⟩
        have n4_ : A0s (w.heap.size ≤ gb178) := ⟨h4_⟩
        have n5_ : A0s (w.heap.size ≤ gb178) := ⟨h5_⟩
        have n6_ : A0s (gb167 ≠ gb178) := ⟨h6_⟩
        have n7_ : A0s (gb178 ≠ gb167) := ⟨h7_⟩
        have n8_ : A0s (gb168 ≠ gb178) := ⟨h8_⟩
        have n9_ : A0s (gb178 ≠ gb168) := ⟨h9_⟩
        have n10_ : A0s (Below w.heap.size w w10) := ⟨h10_⟩
        clear BK167
        clear BK168
        clear HB
        clear h0_ h1_ h2_ h3_ h4_ h5_ h6_ h7_ h8_ h9_ h10_
        have HO174 := n0_
        have BK167 := n1_
        have BK168 := n2_
        have BK178 := n3_
        have GW178 := n4_
        have GE178 := n5_
        have NB167_178 := n6_
        have NB178_167 := n7_
        have NB168_178 := n8_
        have NB178_168 := n9_
        have HB := n10_
        clear n0_ n1_ n2_ n3_ n4_ n5_ n6_ n7_ n8_ n9_ n10_
        have hHeld : w10.cell? ⟨gb167, 0, none⟩ = some (.int .i64 a0_0) ∧ w10.cell? ⟨gb167, 1, none⟩ = some (.int .i64 a0_1) ∧ w10.cell? ⟨gb167, 2, none⟩ = some (.int .i64 a0_2) ∧ w10.cell? ⟨gb167, 3, none⟩ = some (.int .i64 a0_3) ∧ w10.cell? ⟨gb167, 4, none⟩ = some (.slice A0_4 l0_4.length c0_4) ∧ w10.cell? ⟨gb167, 5, none⟩ = some (.slice A0_5 l0_5.length c0_5) ∧ w10.cell? ⟨gb167, 6, none⟩ = some (.slice A0_6 l0_6.length c0_6) := hS_
        refine norm_ (a' := ?_) ?_ ?_
        rotate_left
        ·simp only [putAll, Act.put, List.setIfInBounds_toArray, List.set_cons_zero, List.set_cons_succ]
         rfl
        refine one_ (i := 10) (N := some 16) #[true, true, true, true, true, true, true, true, true, true, true, true, true, true, false, false, true, false] rfl rfl (one_of HT_.out (by kernel_rfl)) (by decide) (fun K hK => ?_)
        refine goes_ Try.func76 (by kernel_rfl) rfl #[.slice A0_4 l0_4.length c0_4] (by rfl) rfl rfl (by (try simp only [List.map_toArray, List.map_cons, List.map_nil]); first | done | rfl | (simp only [List.length_drop, List.length_take]; rfl)) ?_
        with_reducible refine (stopgatelaw03_To.calls k _ _ l0_4 t169 _ ?side1 ?side2 A2.out).mono ?_
        (case side1 => repeat (first | exact (Kd.C_below HR0_4.out HB.out) | (with_reducible refine Kd.C_alloc ?_ _) | (with_reducible refine Kd.C_drewN ?_ _) | (with_reducible refine Kd.C_drew ?_)))
        (case side2 => exact HC0_4.out)
        rintro e w11 ⟨v170, rfl, ho0, hb⟩
        refine ⟨_, rfl, ?_⟩
        have n0_ := A0s.mk (Kd.R_below (by (with_reducible repeat (first | apply Kd.RA | apply Kd.RN | apply Kd.RD)); exact HO174.out) hb)
        have n1_ := A0s.mk (Kd.R_lower ho0 (below_size (by repeat (first | (with_reducible first | exact HB.out | apply bA | apply bN | apply bD | refine bS ?_ GE167.out | refine bS ?_ GE168.out | refine bS ?_ GE178.out) | exact HB.out))))
        have n2_ := A0s.mk (blk_below (g := gb167) (o := .cells #[.int .i64 a0_0, .int .i64 a0_1, .int .i64 a0_2, .int .i64 a0_3, .slice A0_4 l0_4.length c0_4, .slice A0_5 l0_5.length c0_5, .slice A0_6 l0_6.length c0_6] 81 (0, 0)) (by (with_reducible repeat (first | apply kN | apply kD | apply kA)); exact BK167.out) hb)
        have n3_ := A0s.mk (blk_below (g := gb168) (o := .cells #[.int .i64 0, .int .i64 0, .int .i64 0, .int .i64 0, .slice none 0 0, .slice none 0 0, .slice none 0 0] 90 (0, 0)) (by (with_reducible repeat (first | apply kN | apply kD | apply kA)); exact BK168.out) hb)
        have n4_ := A0s.mk (blk_below (g := gb178) (o := .cells #[.int .i64 0, .int .i64 0, .int .i64 0, .int .i64 0, .slice none 0 0, .slice none 0 0, .slice none 0 0] 90 (0, 0)) (by (with_reducible repeat (first | apply kN | apply kD | apply kA)); exact BK178.out) hb)
        have n5_ := A0s.mk (below_step (by repeat (first | (with_reducible first | exact HB.out | apply bA | apply bN | apply bD | refine bS ?_ GE167.out | refine bS ?_ GE168.out | refine bS ?_ GE178.out) | exact HB.out)) hb)
        clear HO174
        clear BK167
        clear BK168
        clear BK178
        clear HB
        have HO174 := n0_
        have HO171 := n1_
        have BK167 := n2_
        have BK168 := n3_
        have BK178 := n4_
        have HB := n5_
        clear n0_ n1_ n2_ n3_ n4_ n5_
        (try clear hb)
        (try clear hb2)
        (try clear hk)
        (try clear hi)
        (try clear ho0)
        refine hK.out _ _ ⟨(kC BK167.out 0).trans rfl, (kC BK167.out 1).trans rfl, (kC BK167.out 2).trans rfl, (kC BK167.out 3).trans rfl, (kC BK167.out 4).trans rfl, (kC BK167.out 5).trans rfl, (kC BK167.out 6).trans rfl⟩ (fun hHeld => ?_)
        clear hK K
        refine norm_ (a' := ?_) ?_ ?_
        rotate_left
        ·show Act.put _ (some 16) _ = _
         simp only [Act.put, List.setIfInBounds_toArray, List.set_cons_zero, List.set_cons_succ, i64_w, i32_w]
         rfl
        exact norm_ (by first | (simp only [putAll, Act.put, List.setIfInBounds_toArray, List.set_cons_zero, List.set_cons_succ]; done) | (simp only [putAll, Act.put, List.setIfInBounds_toArray, List.set_cons_zero, List.set_cons_succ]; rfl)) (hJ10_11_16 (v170, v173, gb178) _ ⟨hHeld, (by (with_reducible repeat (first | apply Kd.RA | apply Kd.RN | apply Kd.RD)); exact HO171.out), (by (with_reducible repeat (first | apply Kd.RA | apply Kd.RN | apply Kd.RD)); exact HO174.out), (by (with_reducible repeat (first | apply kN | apply kD | apply kA)); exact BK167.out), (by (with_reducible repeat (first | apply kN | apply kD | apply kA)); exact BK168.out), (by (with_reducible repeat (first | apply kN | apply kD | apply kA)); exact BK178.out), GW178.out, GE178.out, NB167_178.out, NB178_167.out, NB168_178.out, NB178_168.out, (by repeat (first | (with_reducible first | exact HB.out | apply bA | apply bN | apply bD | refine bS ?_ GE167.out | refine bS ?_ GE168.out | refine bS ?_ GE178.out) | exact HB.out))⟩)
      ·skip
       rintro ⟨v170, gb178⟩ w9 ⟨hS_, h0_, h1_, h2_, h3_, h4_, h5_, h6_, h7_, h8_, h9_, h10_⟩
       have n0_ : A0s (Kd.R k178 178 w9 w.heap.size (fun _ => True) v170 t169) := ⟨h0_⟩
       have n1_ : A0s (w9.heap[gb167]? = some (.cells #[.int .i64 a0_0, .int .i64 a0_1, .int .i64 a0_2, .int .i64 a0_3, .slice A0_4 l0_4.length c0_4, .slice A0_5 l0_5.length c0_5, .slice A0_6 l0_6.length c0_6] 81 (0, 0))) := ⟨h1_⟩
       have n2_ : A0s (w9.heap[gb168]? = some (.cells #[.int .i64 0, .int .i64 0, .int .i64 0, .int .i64 0, .slice none 0 0, .slice none 0 0, .slice none 0 0] 90 (0, 0))) := ⟨h2_⟩
       have n3_ : A0s (w9.heap[gb178]? = some (.cells #[.int .i64 0, .int .i64 0, .int .i64 0, .int .i64 0, .slice none 0 0, .slice none 0 0, .slice none 0 0] 90 (0, 0))) := ⟨h3_⟩
       have n4_ : A0s (w.heap.size ≤ gb178) := ⟨h4_⟩
       have n5_ : A0s (w.heap.size ≤ gb178) := ⟨h5_⟩
       have n6_ : A0s (gb167 ≠ gb178) := ⟨h6_⟩
       have n7_ : A0s (gb178 ≠ gb167) := ⟨h7_⟩
       have n8_ : A0s (gb168 ≠ gb178) := ⟨h8_⟩
       have n9_ : A0s (gb178 ≠ gb168) := ⟨h9_⟩
       have n10_ : A0s (Below w.heap.size w w9) := ⟨h10_⟩
       clear BK167
       clear BK168
       clear HB
       clear h0_ h1_ h2_ h3_ h4_ h5_ h6_ h7_ h8_ h9_ h10_
       have HO171 := n0_
       have BK167 := n1_
       have BK168 := n2_
       have BK178 := n3_
       have GW178 := n4_
       have GE178 := n5_
       have NB167_178 := n6_
       have NB178_167 := n7_
       have NB168_178 := n8_
       have NB178_168 := n9_
       have HB := n10_
       clear n0_ n1_ n2_ n3_ n4_ n5_ n6_ n7_ n8_ n9_ n10_
       have hHeld : w9.cell? ⟨gb167, 0, none⟩ = some (.int .i64 a0_0) ∧ w9.cell? ⟨gb167, 1, none⟩ = some (.int .i64 a0_1) ∧ w9.cell? ⟨gb167, 2, none⟩ = some (.int .i64 a0_2) ∧ w9.cell? ⟨gb167, 3, none⟩ = some (.int .i64 a0_3) ∧ w9.cell? ⟨gb167, 4, none⟩ = some (.slice A0_4 l0_4.length c0_4) ∧ w9.cell? ⟨gb167, 5, none⟩ = some (.slice A0_5 l0_5.length c0_5) ∧ w9.cell? ⟨gb167, 6, none⟩ = some (.slice A0_6 l0_6.length c0_6) := hS_
       refine norm_ (a' := ?_) ?_ ?_
       rotate_left
       ·simp only [putAll, Act.put, List.setIfInBounds_toArray, List.set_cons_zero, List.set_cons_succ]
        rfl
       refine one_ (i := 11) (N := some 17) #[true, true, true, true, true, true, true, true, true, true, true, true, true, true, false, false, true, false] rfl rfl (one_of HT_.out (by kernel_rfl)) (by decide) (fun K hK => ?_)
       refine Kd.R_lit_step (Kd.int .i64) _ 3 ?hg (N := 17) ?hd (xs := ([] : List Int)) (inner := []) (ok := fun _ => True) (okp := fun _ => True) ?hr ?hp (fun _ hk => hk) trivial (Below.refl _ _) (Nat.le_refl _) (by simp) ?_; (case hd => rfl); (case hg => rfl); (case hr => first | (go_simp; done) | (go_simp; rfl)); (case hp => exact (Reps.none _ _))
       intro v173 w10 ho11 hb hg_ hnew_
       clear hg_ hnew_
       (first | rw [← Ny172.out] at ho11 | (simp only [Int.reduceToNat] at ho11; rw [← Ny172.out] at ho11))
       have n0_ := A0s.mk (Kd.R_below (by (with_reducible repeat (first | apply Kd.RA | apply Kd.RN | apply Kd.RD)); exact HO171.out) hb)
       have n1_ := A0s.mk (Kd.R_lower ho11 (below_size (by repeat (first | (with_reducible first | exact HB.out | apply bA | apply bN | apply bD | refine bS ?_ GE167.out | refine bS ?_ GE168.out | refine bS ?_ GE178.out) | exact HB.out))))
       have n2_ := A0s.mk (blk_below (g := gb167) (o := .cells #[.int .i64 a0_0, .int .i64 a0_1, .int .i64 a0_2, .int .i64 a0_3, .slice A0_4 l0_4.length c0_4, .slice A0_5 l0_5.length c0_5, .slice A0_6 l0_6.length c0_6] 81 (0, 0)) (by (with_reducible repeat (first | apply kN | apply kD | apply kA)); exact BK167.out) hb)
       have n3_ := A0s.mk (blk_below (g := gb168) (o := .cells #[.int .i64 0, .int .i64 0, .int .i64 0, .int .i64 0, .slice none 0 0, .slice none 0 0, .slice none 0 0] 90 (0, 0)) (by (with_reducible repeat (first | apply kN | apply kD | apply kA)); exact BK168.out) hb)
       have n4_ := A0s.mk (blk_below (g := gb178) (o := .cells #[.int .i64 0, .int .i64 0, .int .i64 0, .int .i64 0, .slice none 0 0, .slice none 0 0, .slice none 0 0] 90 (0, 0)) (by (with_reducible repeat (first | apply kN | apply kD | apply kA)); exact BK178.out) hb)
       have n5_ := A0s.mk (below_step (by repeat (first | (with_reducible first | exact HB.out | apply bA | apply bN | apply bD | refine bS ?_ GE167.out | refine bS ?_ GE168.out | refine bS ?_ GE178.out) | exact HB.out)) hb)
       clear HO171
       clear BK167
       clear BK168
       clear BK178
       clear HB
       have HO171 := n0_
       have HO174 := n1_
       have BK167 := n2_
       have BK168 := n3_
       have BK178 := n4_
       have HB := n5_
       clear n0_ n1_ n2_ n3_ n4_ n5_
       clear hb ho11
       refine hK.out _ _ ⟨(kC BK167.out 0).trans rfl, (kC BK167.out 1).trans rfl, (kC BK167.out 2).trans rfl, (kC BK167.out 3).trans rfl, (kC BK167.out 4).trans rfl, (kC BK167.out 5).trans rfl, (kC BK167.out 6).trans rfl⟩ (fun hHeld => ?_)
       clear hK K
       refine norm_ (a' := ?_) ?_ ?_
       rotate_left
       ·show Act.put _ (some 17) _ = _
        simp only [Act.put, List.setIfInBounds_toArray, List.set_cons_zero, List.set_cons_succ, i64_w, i32_w]
        rfl
       exact norm_ (by first | (simp only [putAll, Act.put, List.setIfInBounds_toArray, List.set_cons_zero, List.set_cons_succ]; done) | (simp only [putAll, Act.put, List.setIfInBounds_toArray, List.set_cons_zero, List.set_cons_succ]; rfl)) (hJ10_11_16 (v170, v173, gb178) _ ⟨hHeld, (by (with_reducible repeat (first | apply Kd.RA | apply Kd.RN | apply Kd.RD)); exact HO171.out), (by (with_reducible repeat (first | apply Kd.RA | apply Kd.RN | apply Kd.RD)); exact HO174.out), (by (with_reducible repeat (first | apply kN | apply kD | apply kA)); exact BK167.out), (by (with_reducible repeat (first | apply kN | apply kD | apply kA)); exact BK168.out), (by (with_reducible repeat (first | apply kN | apply kD | apply kA)); exact BK178.out), GW178.out, GE178.out, NB167_178.out, NB178_167.out, NB168_178.out, NB178_168.out, (by repeat (first | (with_reducible first | exact HB.out | apply bA | apply bN | apply bD | refine bS ?_ GE167.out | refine bS ?_ GE168.out | refine bS ?_ GE178.out) | exact HB.out))⟩)
     ·skip
      rintro ⟨v170, v173⟩ w10 ⟨hS_, h0_, h1_, h2_, h3_, h4_⟩
      have n0_ : A0s (Kd.R k178 178 w10 w.heap.size (fun _ => True) v170 t169) := ⟨h0_⟩
      have n1_ : A0s (Kd.R (Kd.int .i64) 3 w10 w.heap.size (fun _ => True) v173 y172) := ⟨h1_⟩
      have n2_ : A0s (w10.heap[gb167]? = some (.cells #[.int .i64 a0_0, .int .i64 a0_1, .int .i64 a0_2, .int .i64 a0_3, .slice A0_4 l0_4.length c0_4, .slice A0_5 l0_5.length c0_5, .slice A0_6 l0_6.length c0_6] 81 (0, 0))) := ⟨h2_⟩
      have n3_ : A0s (w10.heap[gb168]? = some (.cells #[.int .i64 0, .int .i64 0, .int .i64 0, .int .i64 0, .slice none 0 0, .slice none 0 0, .slice none 0 0] 90 (0, 0))) := ⟨h3_⟩
      have n4_ : A0s (Below w.heap.size w w10) := ⟨h4_⟩
      clear BK167
      clear BK168
      clear HB
      clear h0_ h1_ h2_ h3_ h4_
      have HO171 := n0_
      have HO174 := n1_
      have BK167 := n2_
      have BK168 := n3_
      have HB := n4_
      clear n0_ n1_ n2_ n3_ n4_
      have hHeld : w10.cell? ⟨gb167, 0, none⟩ = some (.int .i64 a0_0) ∧ w10.cell? ⟨gb167, 1, none⟩ = some (.int .i64 a0_1) ∧ w10.cell? ⟨gb167, 2, none⟩ = some (.int .i64 a0_2) ∧ w10.cell? ⟨gb167, 3, none⟩ = some (.int .i64 a0_3) ∧ w10.cell? ⟨gb167, 4, none⟩ = some (.slice A0_4 l0_4.length c0_4) ∧ w10.cell? ⟨gb167, 5, none⟩ = some (.slice A0_5 l0_5.length c0_5) ∧ w10.cell? ⟨gb167, 6, none⟩ = some (.slice A0_6 l0_6.length c0_6) := hS_
      refine norm_ (a' := ?_) ?_ ?_
      rotate_left
      ·simp only [putAll, Act.put, List.setIfInBounds_toArray, List.set_cons_zero, List.set_cons_succ]
       rfl
      refine two_ (i := 14) (j := 16) (Ni := some 20) (Nj := some 3) #[true, true, true, true, true, true, true, true, true, true, true, true, true, true, true, false, false, false] #[true, true, true, true, true, true, true, true, true, true, true, true, true, true, false, false, true, false] rfl rfl rfl rfl (two_of HT_.out (by kernel_rfl)) (by decide) (by decide) (fun K hK => ?_) (fun K hK => ?_)
      ·skip
       refine Kd.R_append_rows_step (Kd.int .i64) (w0 := w) w.heap.size (by rfl) (.tmp 17) (.tmp 19) 57 3 (.int .i64 0) 8 rfl Try.underlying57 info3 rfl (by decide) (by omega) v173 y172 l0_5 _ _ _ (fun _ => True) (fun _ => False) rfl rfl ?aO ?aR (fun _ _ h => h) (fun _ h => h.elim) ?aF ?aB ?aS ?aL ?_
       (case aR => repeat (first | exact (Kd.C_below HR0_5.out HB.out) | (with_reducible refine Kd.C_alloc ?_ _) | (with_reducible refine Kd.C_drewN ?_ _) | (with_reducible refine Kd.C_drew ?_)))
       (case aB => exact (by repeat (first | (with_reducible first | exact HB.out | apply bA | apply bN | apply bD | refine bS ?_ GE167.out | refine bS ?_ GE168.out) | exact HB.out)))
       (case aF => exact (fun _ _ => trivial))
       (case aO => exact (by (with_reducible repeat (first | apply Kd.RA | apply Kd.RN | apply Kd.RD)); exact HO174.out))
       (case aS => exact (below_size (by repeat (first | (with_reducible first | exact HB.out | apply bA | apply bN | apply bD | refine bS ?_ GE167.out | refine bS ?_ GE168.out) | exact HB.out))))
       (case aL => have := LMc3.out; omega)
       intro v176 w11 ho hb hg hat
       rw [← Ny175.out] at ho
       have n0_ := A0s.mk (blk_grown (g := gb167) (o := .cells #[.int .i64 a0_0, .int .i64 a0_1, .int .i64 a0_2, .int .i64 a0_3, .slice A0_4 l0_4.length c0_4, .slice A0_5 l0_5.length c0_5, .slice A0_6 l0_6.length c0_6] 81 (0, 0)) (by (with_reducible repeat (first | apply kN | apply kD | apply kA)); exact BK167.out) hg (Kd.R_ne HO174.out BK167.out (by decide)))
       have n1_ := A0s.mk (blk_grown (g := gb168) (o := .cells #[.int .i64 0, .int .i64 0, .int .i64 0, .int .i64 0, .slice none 0 0, .slice none 0 0, .slice none 0 0] 90 (0, 0)) (by (with_reducible repeat (first | apply kN | apply kD | apply kA)); exact BK168.out) hg (Kd.R_ne HO174.out BK168.out (by decide)))
       have n2_ := A0s.mk (Kd.R_over' (by (with_reducible repeat (first | apply Kd.RA | apply Kd.RN | apply Kd.RD)); exact HO171.out) (Kd.R_typed (by (with_reducible repeat (first | apply Kd.RA | apply Kd.RN | apply Kd.RD)); exact HO174.out)) (by decide) hg)
       have n3_ := A0s.mk (hb)
       have n4_ := A0s.mk (ho)
       clear BK167
       clear BK168
       clear HO171
       clear HB
       clear HO174
       have BK167 := n0_
       have BK168 := n1_
       have HO171 := n2_
       have HB := n3_
       have HO177 := n4_
       clear n0_ n1_ n2_ n3_ n4_
       clear ho hb hg hat
       obtain ⟨Ao12, co12, eo12⟩ := Kd.R_slice HO177.out
       (first | subst eo12 | (injection eo12 with f1_ f2_ f3_; have f4_ := f1_.symm; have f5_ := f3_.symm; clear f1_ f2_ f3_; subst f4_; subst f5_))
       obtain ⟨Ao13, co13, eo13⟩ := Kd.R_slice HO171.out
       (first | subst eo13 | (injection eo13 with f1_ f2_ f3_; have f4_ := f1_.symm; have f5_ := f3_.symm; clear f1_ f2_ f3_; subst f4_; subst f5_))
       refine hK.out _ _ ⟨(kC BK167.out 0).trans rfl, (kC BK167.out 1).trans rfl, (kC BK167.out 2).trans rfl, (kC BK167.out 3).trans rfl, (kC BK167.out 4).trans rfl, (kC BK167.out 5).trans rfl, (kC BK167.out 6).trans rfl⟩ (fun hHeld => ?_)
       clear hK K
       refine norm_ (a' := ?_) ?_ ?_
       rotate_left
       ·show Act.put _ (some 20) _ = _
        simp only [Act.put, List.setIfInBounds_toArray, List.set_cons_zero, List.set_cons_succ, i64_w, i32_w]
        rfl
       refine pure_ (i := 15) (N := some 21) (v := ?_) (a' := ?_) #[true, true, true, true, true, true, true, true, true, true, true, true, true, true, true, true, false, false] rfl rfl (any_of HT_.out (by kernel_rfl)) (fun _ _ _ h => h) (Or.inl ⟨by rfl, ?_⟩) ?_ ?_
       rotate_left
       ·intro w'
        go_simp
        with_reducible rfl
       rotate_left
       ·simp only [Act.put, List.setIfInBounds_toArray, List.set_cons_zero, List.set_cons_succ, i64_w, i32_w]
        rfl
       exact norm_ (by first | (simp only [putAll, Act.put, List.setIfInBounds_toArray, List.set_cons_zero, List.set_cons_succ]; done) | (simp only [putAll, Act.put, List.setIfInBounds_toArray, List.set_cons_zero, List.set_cons_succ]; rfl)) (hJ10_11_14 (.slice Ao13 t169.length co13, v173, .slice Ao12 y175.length co12) _ ⟨hHeld, (by (with_reducible repeat (first | apply Kd.RA | apply Kd.RN | apply Kd.RD)); exact HO171.out), (by (with_reducible repeat (first | apply Kd.RA | apply Kd.RN | apply Kd.RD)); exact HO177.out), (by (with_reducible repeat (first | apply kN | apply kD | apply kA)); exact BK167.out), (by (with_reducible repeat (first | apply kN | apply kD | apply kA)); exact BK168.out), (by repeat (first | (with_reducible first | exact HB.out | apply bA | apply bN | apply bD | refine bS ?_ GE167.out | refine bS ?_ GE168.out) | exact HB.out))⟩)
      ·skip
       refine box_step ?hg (N := 3) ?hd (cs := #[.int .i64 0, .int .i64 0, .int .i64 0, .int .i64 0, .slice none 0 0, .slice none 0 0, .slice none 0 0]) (t := 90) ?hr ?_; (case hd => rfl); (case hg => rfl); (case hr => first | (go_simp; done) | (go_simp; rfl))
       intro gb178 hg w11 hbox hb
       have n0_ := A0s.mk (Kd.R_below (by (with_reducible repeat (first | apply Kd.RA | apply Kd.RN | apply Kd.RD)); exact HO171.out) hb)
       have n1_ := A0s.mk (Kd.R_below (by (with_reducible repeat (first | apply Kd.RA | apply Kd.RN | apply Kd.RD)); exact HO174.out) hb)
       have n2_ := A0s.mk (blk_below (g := gb167) (o := .cells #[.int .i64 a0_0, .int .i64 a0_1, .int .i64 a0_2, .int .i64 a0_3, .slice A0_4 l0_4.length c0_4, .slice A0_5 l0_5.length c0_5, .slice A0_6 l0_6.length c0_6] 81 (0, 0)) (by (with_reducible repeat (first | apply kN | apply kD | apply kA)); exact BK167.out) hb)
       have n3_ := A0s.mk (blk_below (g := gb168) (o := .cells #[.int .i64 0, .int .i64 0, .int .i64 0, .int .i64 0, .slice none 0 0, .slice none 0 0, .slice none 0 0] 90 (0, 0)) (by (with_reducible repeat (first | apply kN | apply kD | apply kA)); exact BK168.out) hb)
       have n4_ := A0s.mk (below_step (by repeat (first | (with_reducible first | exact HB.out | apply bA | apply bN | apply bD | refine bS ?_ GE167.out | refine bS ?_ GE168.out) | exact HB.out)) hb)
       have n5_ := A0s.mk (hbox)
       have n6_ := A0s.mk ((by rw [hg]; exact (below_size (by repeat (first | (with_reducible first | exact HB.out | apply bA | apply bN | apply bD | refine bS ?_ GE167.out | refine bS ?_ GE168.out) | exact HB.out))) : w.heap.size ≤ gb178))
       have n7_ := A0s.mk ((by rw [hg]; exact (below_size (by repeat (first | (with_reducible first | exact HB.out | apply bA | apply bN | apply bD | refine bS ?_ GE167.out | refine bS ?_ GE168.out) | exact HB.out))) : w.heap.size ≤ gb178))
       have n8_ := A0s.mk ((by rw [hg]; exact Nat.ne_of_lt (blk_lt (g := gb167) (o := .cells #[.int .i64 a0_0, .int .i64 a0_1, .int .i64 a0_2, .int .i64 a0_3, .slice A0_4 l0_4.length c0_4, .slice A0_5 l0_5.length c0_5, .slice A0_6 l0_6.length c0_6] 81 (0, 0)) (by (with_reducible repeat (first | apply kN | apply kD | apply kA)); exact BK167.out)) : gb167 ≠ gb178))
       have n9_ := A0s.mk ((by rw [hg]; exact Nat.ne_of_gt (blk_lt (g := gb167) (o := .cells #[.int .i64 a0_0, .int .i64 a0_1, .int .i64 a0_2, .int .i64 a0_3, .slice A0_4 l0_4.length c0_4, .slice A0_5 l0_5.length c0_5, .slice A0_6 l0_6.length c0_6] 81 (0, 0)) (by (with_reducible repeat (first | apply kN | apply kD | apply kA)); exact BK167.out)) : gb178 ≠ gb167))
       have n10_ := A0s.mk ((by rw [hg]; exact Nat.ne_of_lt (blk_lt (g := gb168) (o := .cells #[.int .i64 0, .int .i64 0, .int .i64 0, .int .i64 0, .slice none 0 0, .slice none 0 0, .slice none 0 0] 90 (0, 0)) (by (with_reducible repeat (first | apply kN | apply kD | apply kA)); exact BK168.out)) : gb168 ≠ gb178))
       have n11_ := A0s.mk ((by rw [hg]; exact Nat.ne_of_gt (blk_lt (g := gb168) (o := .cells #[.int .i64 0, .int .i64 0, .int .i64 0, .int .i64 0, .slice none 0 0, .slice none 0 0, .slice none 0 0] 90 (0, 0)) (by (with_reducible repeat (first | apply kN | apply kD | apply kA)); exact BK168.out)) : gb178 ≠ gb168))
       clear HO171
       clear HO174
       clear BK167
       clear BK168
       clear HB
       have HO171 := n0_
       have HO174 := n1_
       have BK167 := n2_
       have BK168 := n3_
       have HB := n4_
       have BK178 := n5_
       have GW178 := n6_
       have GE178 := n7_
       have NB167_178 := n8_
       have NB178_167 := n9_
       have NB168_178 := n10_
       have NB178_168 := n11_
       clear n0_ n1_ n2_ n3_ n4_ n5_ n6_ n7_ n8_ n9_ n10_ n11_
       clear hb hbox hg
       refine hK.out _ _ ⟨(kC BK167.out 0).trans rfl, (kC BK167.out 1).trans rfl, (kC BK167.out 2).trans rfl, (kC BK167.out 3).trans rfl, (kC BK167.out 4).trans rfl, (kC BK167.out 5).trans rfl, (kC BK167.out 6).trans rfl⟩ (fun hHeld => ?_)
       clear hK K
       refine norm_ (a' := ?_) ?_ ?_
       rotate_left
       ·show Act.put _ (some 3) _ = _
        simp only [Act.put, List.setIfInBounds_toArray, List.set_cons_zero, List.set_cons_succ, i64_w, i32_w]
        rfl
       exact norm_ (by first | (simp only [putAll, Act.put, List.setIfInBounds_toArray, List.set_cons_zero, List.set_cons_succ]; done) | (simp only [putAll, Act.put, List.setIfInBounds_toArray, List.set_cons_zero, List.set_cons_succ]; rfl)) (hJ10_11_16 (v170, v173, gb178) _ ⟨hHeld, (by (with_reducible repeat (first | apply Kd.RA | apply Kd.RN | apply Kd.RD)); exact HO171.out), (by (with_reducible repeat (first | apply Kd.RA | apply Kd.RN | apply Kd.RD)); exact HO174.out), (by (with_reducible repeat (first | apply kN | apply kD | apply kA)); exact BK167.out), (by (with_reducible repeat (first | apply kN | apply kD | apply kA)); exact BK168.out), (by (with_reducible repeat (first | apply kN | apply kD | apply kA)); exact BK178.out), GW178.out, GE178.out, NB167_178.out, NB178_167.out, NB168_178.out, NB178_168.out, (by repeat (first | (with_reducible first | exact HB.out | apply bA | apply bN | apply bD | refine bS ?_ GE167.out | refine bS ?_ GE168.out | refine bS ?_ GE178.out) | exact HB.out))⟩)
    ·skip
     rintro ⟨v170, v173, gb178⟩ w11 ⟨hS_, h0_, h1_, h2_, h3_, h4_, h5_, h6_, h7_, h8_, h9_, h10_, h11_⟩
     have n0_ : A0s (Kd.R k178 178 w11 w.heap.size (fun _ => True) v170 t169) := ⟨h0_⟩
     have n1_ : A0s (Kd.R (Kd.int .i64) 3 w11 w.heap.size (fun _ => True) v173 y172) := ⟨h1_⟩
     have n2_ : A0s (w11.heap[gb167]? = some (.cells #[.int .i64 a0_0, .int .i64 a0_1, .int .i64 a0_2, .int .i64 a0_3, .slice A0_4 l0_4.length c0_4, .slice A0_5 l0_5.length c0_5, .slice A0_6 l0_6.length c0_6] 81 (0, 0))) := ⟨h2_⟩
     have n3_ : A0s (w11.heap[gb168]? = some (.cells #[.int .i64 0, .int .i64 0, .int .i64 0, .int .i64 0, .slice none 0 0, .slice none 0 0, .slice none 0 0] 90 (0, 0))) := ⟨h3_⟩
     have n4_ : A0s (w11.heap[gb178]? = some (.cells #[.int .i64 0, .int .i64 0, .int .i64 0, .int .i64 0, .slice none 0 0, .slice none 0 0, .slice none 0 0] 90 (0, 0))) := ⟨h4_⟩
     have n5_ : A0s (w.heap.size ≤ gb178) := ⟨h5_⟩
     have n6_ : A0s (w.heap.size ≤ gb178) := ⟨h6_⟩
     have n7_ : A0s (gb167 ≠ gb178) := ⟨h7_⟩
     have n8_ : A0s (gb178 ≠ gb167) := ⟨h8_⟩
     have n9_ : A0s (gb168 ≠ gb178) := ⟨h9_⟩
     have n10_ : A0s (gb178 ≠ gb168) := ⟨h10_⟩
     have n11_ : A0s (Below w.heap.size w w11) := ⟨h11_⟩
     clear BK167
     clear BK168
     clear HB
     clear h0_ h1_ h2_ h3_ h4_ h5_ h6_ h7_ h8_ h9_ h10_ h11_
     have HO171 := n0_
     have HO174 := n1_
     have BK167 := n2_
     have BK168 := n3_
     have BK178 := n4_
     have GW178 := n5_
     have GE178 := n6_
     have NB167_178 := n7_
     have NB178_167 := n8_
     have NB168_178 := n9_
     have NB178_168 := n10_
     have HB := n11_
     clear n0_ n1_ n2_ n3_ n4_ n5_ n6_ n7_ n8_ n9_ n10_ n11_
     have hHeld : w11.cell? ⟨gb167, 0, none⟩ = some (.int .i64 a0_0) ∧ w11.cell? ⟨gb167, 1, none⟩ = some (.int .i64 a0_1) ∧ w11.cell? ⟨gb167, 2, none⟩ = some (.int .i64 a0_2) ∧ w11.cell? ⟨gb167, 3, none⟩ = some (.int .i64 a0_3) ∧ w11.cell? ⟨gb167, 4, none⟩ = some (.slice A0_4 l0_4.length c0_4) ∧ w11.cell? ⟨gb167, 5, none⟩ = some (.slice A0_5 l0_5.length c0_5) ∧ w11.cell? ⟨gb167, 6, none⟩ = some (.slice A0_6 l0_6.length c0_6) := hS_
     refine norm_ (a' := ?_) ?_ ?_
     rotate_left
     ·simp only [putAll, Act.put, List.setIfInBounds_toArray, List.set_cons_zero, List.set_cons_succ]
      rfl
     refine one_ (i := 14) (N := some 20) #[true, true, true, true, true, true, true, true, true, true, true, true, true, true, true, false, true, false] rfl rfl (one_of HT_.out (by kernel_rfl)) (by decide) (fun K hK => ?_)
     refine Kd.R_append_rows_step (Kd.int .i64) (w0 := w) w.heap.size (by rfl) (.tmp 17) (.tmp 19) 57 3 (.int .i64 0) 8 rfl Try.underlying57 info3 rfl (by decide) (by omega) v173 y172 l0_5 _ _ _ (fun _ => True) (fun _ => False) rfl rfl ?aO ?aR (fun _ _ h => h) (fun _ h => h.elim) ?aF ?aB ?aS ?aL ?_
     (case aR => repeat (first | exact (Kd.C_below HR0_5.out HB.out) | (with_reducible refine Kd.C_alloc ?_ _) | (with_reducible refine Kd.C_drewN ?_ _) | (with_reducible refine Kd.C_drew ?_)))
     (case aB => exact (by repeat (first | (with_reducible first | exact HB.out | apply bA | apply bN | apply bD | refine bS ?_ GE167.out | refine bS ?_ GE168.out | refine bS ?_ GE178.out) | exact HB.out)))
     (case aF => exact (fun _ _ => trivial))
     (case aO => exact (by (with_reducible repeat (first | apply Kd.RA | apply Kd.RN | apply Kd.RD)); exact HO174.out))
     (case aS => exact (below_size (by repeat (first | (with_reducible first | exact HB.out | apply bA | apply bN | apply bD | refine bS ?_ GE167.out | refine bS ?_ GE168.out | refine bS ?_ GE178.out) | exact HB.out))))
     (case aL => have := LMc3.out; omega)
     intro v176 w12 ho hb hg hat
     rw [← Ny175.out] at ho
     have n0_ := A0s.mk (blk_grown (g := gb167) (o := .cells #[.int .i64 a0_0, .int .i64 a0_1, .int .i64 a0_2, .int .i64 a0_3, .slice A0_4 l0_4.length c0_4, .slice A0_5 l0_5.length c0_5, .slice A0_6 l0_6.length c0_6] 81 (0, 0)) (by (with_reducible repeat (first | apply kN | apply kD | apply kA)); exact BK167.out) hg (Kd.R_ne HO174.out BK167.out (by decide)))
     have n1_ := A0s.mk (blk_grown (g := gb168) (o := .cells #[.int .i64 0, .int .i64 0, .int .i64 0, .int .i64 0, .slice none 0 0, .slice none 0 0, .slice none 0 0] 90 (0, 0)) (by (with_reducible repeat (first | apply kN | apply kD | apply kA)); exact BK168.out) hg (Kd.R_ne HO174.out BK168.out (by decide)))
     have n2_ := A0s.mk (Kd.R_over' (by (with_reducible repeat (first | apply Kd.RA | apply Kd.RN | apply Kd.RD)); exact HO171.out) (Kd.R_typed (by (with_reducible repeat (first | apply Kd.RA | apply Kd.RN | apply Kd.RD)); exact HO174.out)) (by decide) hg)
     have n3_ := A0s.mk (blk_grown (g := gb178) (o := .cells #[.int .i64 0, .int .i64 0, .int .i64 0, .int .i64 0, .slice none 0 0, .slice none 0 0, .slice none 0 0] 90 (0, 0)) (by (with_reducible repeat (first | apply kN | apply kD | apply kA)); exact BK178.out) hg (Kd.R_ne HO174.out BK178.out (by decide)))
     have n4_ := A0s.mk (hb)
     have n5_ := A0s.mk (ho)
     clear BK167
     clear BK168
     clear HO171
     clear BK178
     clear HB
     clear HO174
     have BK167 := n0_
     have BK168 := n1_
     have HO171 := n2_
     have BK178 := n3_
     have HB := n4_
     have HO177 := n5_
     clear n0_ n1_ n2_ n3_ n4_ n5_
     clear ho hb hg hat
     obtain ⟨Ao13, co13, eo13⟩ := Kd.R_slice HO177.out
     (first | subst eo13 | (injection eo13 with f1_ f2_ f3_; have f4_ := f1_.symm; have f5_ := f3_.symm; clear f1_ f2_ f3_; subst f4_; subst f5_))
     obtain ⟨Ao14, co14, eo14⟩ := Kd.R_slice HO171.out
     (first | subst eo14 | (injection eo14 with f1_ f2_ f3_; have f4_ := f1_.symm; have f5_ := f3_.symm; clear f1_ f2_ f3_; subst f4_; subst f5_))
     refine hK.out _ _ ⟨(kC BK167.out 0).trans rfl, (kC BK167.out 1).trans rfl, (kC BK167.out 2).trans rfl, (kC BK167.out 3).trans rfl, (kC BK167.out 4).trans rfl, (kC BK167.out 5).trans rfl, (kC BK167.out 6).trans rfl⟩ (fun hHeld => ?_)
     clear hK K
     refine norm_ (a' := ?_) ?_ ?_
     rotate_left
     ·show Act.put _ (some 20) _ = _
      simp only [Act.put, List.setIfInBounds_toArray, List.set_cons_zero, List.set_cons_succ, i64_w, i32_w]
      rfl
     refine pure_ (i := 15) (N := some 21) (v := ?_) (a' := ?_) #[true, true, true, true, true, true, true, true, true, true, true, true, true, true, true, true, true, false] rfl rfl (any_of HT_.out (by kernel_rfl)) (fun _ _ _ h => h) (Or.inl ⟨by rfl, ?_⟩) ?_ ?_
     rotate_left
     ·intro w'
      go_simp
      with_reducible rfl
     rotate_left
     ·simp only [Act.put, List.setIfInBounds_toArray, List.set_cons_zero, List.set_cons_succ, i64_w, i32_w]
      rfl
     exact norm_ (by first | (simp only [putAll, Act.put, List.setIfInBounds_toArray, List.set_cons_zero, List.set_cons_succ]; done) | (simp only [putAll, Act.put, List.setIfInBounds_toArray, List.set_cons_zero, List.set_cons_succ]; rfl)) (hJ10_11_14_16 (.slice Ao14 t169.length co14, v173, .slice Ao13 y175.length co13, gb178) _ ⟨hHeld, (by (with_reducible repeat (first | apply Kd.RA | apply Kd.RN | apply Kd.RD)); exact HO171.out), (by (with_reducible repeat (first | apply Kd.RA | apply Kd.RN | apply Kd.RD)); exact HO177.out), (by (with_reducible repeat (first | apply kN | apply kD | apply kA)); exact BK167.out), (by (with_reducible repeat (first | apply kN | apply kD | apply kA)); exact BK168.out), (by (with_reducible repeat (first | apply kN | apply kD | apply kA)); exact BK178.out), GW178.out, GE178.out, NB167_178.out, NB178_167.out, NB168_178.out, NB178_168.out, (by repeat (first | (with_reducible first | exact HB.out | apply bA | apply bN | apply bD | refine bS ?_ GE167.out | refine bS ?_ GE168.out | refine bS ?_ GE178.out) | exact HB.out))⟩)
   ·skip
    rintro ⟨v170, v173, v176⟩ w13 ⟨hS_, h0_, h1_, h2_, h3_, h4_⟩
    have n0_ : A0s (Kd.R k178 178 w13 w.heap.size (fun _ => True) v170 t169) := ⟨h0_⟩
    have n1_ : A0s (Kd.R (Kd.int .i64) 3 w13 w.heap.size (fun _ => True) v176 y175) := ⟨h1_⟩
    have n2_ : A0s (w13.heap[gb167]? = some (.cells #[.int .i64 a0_0, .int .i64 a0_1, .int .i64 a0_2, .int .i64 a0_3, .slice A0_4 l0_4.length c0_4, .slice A0_5 l0_5.length c0_5, .slice A0_6 l0_6.length c0_6] 81 (0, 0))) := ⟨h2_⟩
    have n3_ : A0s (w13.heap[gb168]? = some (.cells #[.int .i64 0, .int .i64 0, .int .i64 0, .int .i64 0, .slice none 0 0, .slice none 0 0, .slice none 0 0] 90 (0, 0))) := ⟨h3_⟩
    have n4_ : A0s (Below w.heap.size w w13) := ⟨h4_⟩
    clear BK167
    clear BK168
    clear HB
    clear h0_ h1_ h2_ h3_ h4_
    have HO171 := n0_
    have HO177 := n1_
    have BK167 := n2_
    have BK168 := n3_
    have HB := n4_
    clear n0_ n1_ n2_ n3_ n4_
    have hHeld : w13.cell? ⟨gb167, 0, none⟩ = some (.int .i64 a0_0) ∧ w13.cell? ⟨gb167, 1, none⟩ = some (.int .i64 a0_1) ∧ w13.cell? ⟨gb167, 2, none⟩ = some (.int .i64 a0_2) ∧ w13.cell? ⟨gb167, 3, none⟩ = some (.int .i64 a0_3) ∧ w13.cell? ⟨gb167, 4, none⟩ = some (.slice A0_4 l0_4.length c0_4) ∧ w13.cell? ⟨gb167, 5, none⟩ = some (.slice A0_5 l0_5.length c0_5) ∧ w13.cell? ⟨gb167, 6, none⟩ = some (.slice A0_6 l0_6.length c0_6) := hS_
    obtain ⟨Ao14, co14, eo14⟩ := Kd.R_slice HO177.out
    (first | subst eo14 | (injection eo14 with f1_ f2_ f3_; have f4_ := f1_.symm; have f5_ := f3_.symm; clear f1_ f2_ f3_; subst f4_; subst f5_))
    obtain ⟨Ao15, co15, eo15⟩ := Kd.R_slice HO171.out
    (first | subst eo15 | (injection eo15 with f1_ f2_ f3_; have f4_ := f1_.symm; have f5_ := f3_.symm; clear f1_ f2_ f3_; subst f4_; subst f5_))
    refine norm_ (a' := ?_) ?_ ?_
    rotate_left
    ·simp only [putAll, Act.put, List.setIfInBounds_toArray, List.set_cons_zero, List.set_cons_succ]
     rfl
    refine one_ (i := 16) (N := some 3) #[true, true, true, true, true, true, true, true, true, true, true, true, true, true, true, true, true, false] rfl rfl (one_of HT_.out (by kernel_rfl)) (by decide) (fun K hK => ?_)
    refine box_step ?hg (N := 3) ?hd (cs := #[.int .i64 0, .int .i64 0, .int .i64 0, .int .i64 0, .slice none 0 0, .slice none 0 0, .slice none 0 0]) (t := 90) ?hr ?_; (case hd => rfl); (case hg => rfl); (case hr => first | (go_simp; done) | (go_simp; rfl))
    intro gb178 hg w16 hbox hb
    have n0_ := A0s.mk (Kd.R_below (by (with_reducible repeat (first | apply Kd.RA | apply Kd.RN | apply Kd.RD)); exact HO171.out) hb)
    have n1_ := A0s.mk (Kd.R_below (by (with_reducible repeat (first | apply Kd.RA | apply Kd.RN | apply Kd.RD)); exact HO177.out) hb)
    have n2_ := A0s.mk (blk_below (g := gb167) (o := .cells #[.int .i64 a0_0, .int .i64 a0_1, .int .i64 a0_2, .int .i64 a0_3, .slice A0_4 l0_4.length c0_4, .slice A0_5 l0_5.length c0_5, .slice A0_6 l0_6.length c0_6] 81 (0, 0)) (by (with_reducible repeat (first | apply kN | apply kD | apply kA)); exact BK167.out) hb)
    have n3_ := A0s.mk (blk_below (g := gb168) (o := .cells #[.int .i64 0, .int .i64 0, .int .i64 0, .int .i64 0, .slice none 0 0, .slice none 0 0, .slice none 0 0] 90 (0, 0)) (by (with_reducible repeat (first | apply kN | apply kD | apply kA)); exact BK168.out) hb)
    have n4_ := A0s.mk (below_step (by repeat (first | (with_reducible first | exact HB.out | apply bA | apply bN | apply bD | refine bS ?_ GE167.out | refine bS ?_ GE168.out) | exact HB.out)) hb)
    have n5_ := A0s.mk (hbox)
    have n6_ := A0s.mk ((by rw [hg]; exact (below_size (by repeat (first | (with_reducible first | exact HB.out | apply bA | apply bN | apply bD | refine bS ?_ GE167.out | refine bS ?_ GE168.out) | exact HB.out))) : w.heap.size ≤ gb178))
    have n7_ := A0s.mk ((by rw [hg]; exact (below_size (by repeat (first | (with_reducible first | exact HB.out | apply bA | apply bN | apply bD | refine bS ?_ GE167.out | refine bS ?_ GE168.out) | exact HB.out))) : w.heap.size ≤ gb178))
    have n8_ := A0s.mk ((by rw [hg]; exact Nat.ne_of_lt (blk_lt (g := gb167) (o := .cells #[.int .i64 a0_0, .int .i64 a0_1, .int .i64 a0_2, .int .i64 a0_3, .slice A0_4 l0_4.length c0_4, .slice A0_5 l0_5.length c0_5, .slice A0_6 l0_6.length c0_6] 81 (0, 0)) (by (with_reducible repeat (first | apply kN | apply kD | apply kA)); exact BK167.out)) : gb167 ≠ gb178))
    have n9_ := A0s.mk ((by rw [hg]; exact Nat.ne_of_gt (blk_lt (g := gb167) (o := .cells #[.int .i64 a0_0, .int .i64 a0_1, .int .i64 a0_2, .int .i64 a0_3, .slice A0_4 l0_4.length c0_4, .slice A0_5 l0_5.length c0_5, .slice A0_6 l0_6.length c0_6] 81 (0, 0)) (by (with_reducible repeat (first | apply kN | apply kD | apply kA)); exact BK167.out)) : gb178 ≠ gb167))
    have n10_ := A0s.mk ((by rw [hg]; exact Nat.ne_of_lt (blk_lt (g := gb168) (o := .cells #[.int .i64 0, .int .i64 0, .int .i64 0, .int .i64 0, .slice none 0 0, .slice none 0 0, .slice none 0 0] 90 (0, 0)) (by (with_reducible repeat (first | apply kN | apply kD | apply kA)); exact BK168.out)) : gb168 ≠ gb178))
    have n11_ := A0s.mk ((by rw [hg]; exact Nat.ne_of_gt (blk_lt (g := gb168) (o := .cells #[.int .i64 0, .int .i64 0, .int .i64 0, .int .i64 0, .slice none 0 0, .slice none 0 0, .slice none 0 0] 90 (0, 0)) (by (with_reducible repeat (first | apply kN | apply kD | apply kA)); exact BK168.out)) : gb178 ≠ gb168))
    clear HO171
    clear HO177
    clear BK167
    clear BK168
    clear HB
    have HO171 := n0_
    have HO177 := n1_
    have BK167 := n2_
    have BK168 := n3_
    have HB := n4_
    have BK178 := n5_
    have GW178 := n6_
    have GE178 := n7_
    have NB167_178 := n8_
    have NB178_167 := n9_
    have NB168_178 := n10_
    have NB178_168 := n11_
    clear n0_ n1_ n2_ n3_ n4_ n5_ n6_ n7_ n8_ n9_ n10_ n11_
    clear hb hbox hg
    refine hK.out _ _ ⟨(kC BK167.out 0).trans rfl, (kC BK167.out 1).trans rfl, (kC BK167.out 2).trans rfl, (kC BK167.out 3).trans rfl, (kC BK167.out 4).trans rfl, (kC BK167.out 5).trans rfl, (kC BK167.out 6).trans rfl⟩ (fun hHeld => ?_)
    clear hK K
    refine norm_ (a' := ?_) ?_ ?_
    rotate_left
    ·show Act.put _ (some 3) _ = _
     simp only [Act.put, List.setIfInBounds_toArray, List.set_cons_zero, List.set_cons_succ, i64_w, i32_w]
     rfl
    exact norm_ (by first | (simp only [putAll, Act.put, List.setIfInBounds_toArray, List.set_cons_zero, List.set_cons_succ]; done) | (simp only [putAll, Act.put, List.setIfInBounds_toArray, List.set_cons_zero, List.set_cons_succ]; rfl)) (hJ10_11_14_16 (.slice Ao15 t169.length co15, v173, .slice Ao14 y175.length co14, gb178) _ ⟨hHeld, (by (with_reducible repeat (first | apply Kd.RA | apply Kd.RN | apply Kd.RD)); exact HO171.out), (by (with_reducible repeat (first | apply Kd.RA | apply Kd.RN | apply Kd.RD)); exact HO177.out), (by (with_reducible repeat (first | apply kN | apply kD | apply kA)); exact BK167.out), (by (with_reducible repeat (first | apply kN | apply kD | apply kA)); exact BK168.out), (by (with_reducible repeat (first | apply kN | apply kD | apply kA)); exact BK178.out), GW178.out, GE178.out, NB167_178.out, NB178_167.out, NB168_178.out, NB178_168.out, (by repeat (first | (with_reducible first | exact HB.out | apply bA | apply bN | apply bD | refine bS ?_ GE167.out | refine bS ?_ GE168.out | refine bS ?_ GE178.out) | exact HB.out))⟩)
  rintro ⟨v170, v173, v176, gb178⟩ w14 ⟨hS_, h0_, h1_, h2_, h3_, h4_, h5_, h6_, h7_, h8_, h9_, h10_, h11_⟩
  have n0_ : A0s (Kd.R k178 178 w14 w.heap.size (fun _ => True) v170 t169) := ⟨h0_⟩
  have n1_ : A0s (Kd.R (Kd.int .i64) 3 w14 w.heap.size (fun _ => True) v176 y175) := ⟨h1_⟩
  have n2_ : A0s (w14.heap[gb167]? = some (.cells #[.int .i64 a0_0, .int .i64 a0_1, .int .i64 a0_2, .int .i64 a0_3, .slice A0_4 l0_4.length c0_4, .slice A0_5 l0_5.length c0_5, .slice A0_6 l0_6.length c0_6] 81 (0, 0))) := ⟨h2_⟩
  have n3_ : A0s (w14.heap[gb168]? = some (.cells #[.int .i64 0, .int .i64 0, .int .i64 0, .int .i64 0, .slice none 0 0, .slice none 0 0, .slice none 0 0] 90 (0, 0))) := ⟨h3_⟩
  have n4_ : A0s (w14.heap[gb178]? = some (.cells #[.int .i64 0, .int .i64 0, .int .i64 0, .int .i64 0, .slice none 0 0, .slice none 0 0, .slice none 0 0] 90 (0, 0))) := ⟨h4_⟩
  have n5_ : A0s (w.heap.size ≤ gb178) := ⟨h5_⟩
  have n6_ : A0s (w.heap.size ≤ gb178) := ⟨h6_⟩
  have n7_ : A0s (gb167 ≠ gb178) := ⟨h7_⟩
  have n8_ : A0s (gb178 ≠ gb167) := ⟨h8_⟩
  have n9_ : A0s (gb168 ≠ gb178) := ⟨h9_⟩
  have n10_ : A0s (gb178 ≠ gb168) := ⟨h10_⟩
  have n11_ : A0s (Below w.heap.size w w14) := ⟨h11_⟩
  clear BK167
  clear BK168
  clear HB
  clear h0_ h1_ h2_ h3_ h4_ h5_ h6_ h7_ h8_ h9_ h10_ h11_
  have HO171 := n0_
  have HO177 := n1_
  have BK167 := n2_
  have BK168 := n3_
  have BK178 := n4_
  have GW178 := n5_
  have GE178 := n6_
  have NB167_178 := n7_
  have NB178_167 := n8_
  have NB168_178 := n9_
  have NB178_168 := n10_
  have HB := n11_
  clear n0_ n1_ n2_ n3_ n4_ n5_ n6_ n7_ n8_ n9_ n10_ n11_
  have hHeld : w14.cell? ⟨gb167, 0, none⟩ = some (.int .i64 a0_0) ∧ w14.cell? ⟨gb167, 1, none⟩ = some (.int .i64 a0_1) ∧ w14.cell? ⟨gb167, 2, none⟩ = some (.int .i64 a0_2) ∧ w14.cell? ⟨gb167, 3, none⟩ = some (.int .i64 a0_3) ∧ w14.cell? ⟨gb167, 4, none⟩ = some (.slice A0_4 l0_4.length c0_4) ∧ w14.cell? ⟨gb167, 5, none⟩ = some (.slice A0_5 l0_5.length c0_5) ∧ w14.cell? ⟨gb167, 6, none⟩ = some (.slice A0_6 l0_6.length c0_6) := hS_
  obtain ⟨Ao15, co15, eo15⟩ := Kd.R_slice HO177.out
  (first | subst eo15 | (injection eo15 with f1_ f2_ f3_; have f4_ := f1_.symm; have f5_ := f3_.symm; clear f1_ f2_ f3_; subst f4_; subst f5_))
  obtain ⟨Ao16, co16, eo16⟩ := Kd.R_slice HO171.out
  (first | subst eo16 | (injection eo16 with f1_ f2_ f3_; have f4_ := f1_.symm; have f5_ := f3_.symm; clear f1_ f2_ f3_; subst f4_; subst f5_))
  refine norm_ (a' := ?_) ?_ ?_
  rotate_left
  ·simp only [putAll, Act.put, List.setIfInBounds_toArray, List.set_cons_zero, List.set_cons_succ]
   rfl
  refine one_ (i := 17) (N := none) #[true, true, true, true, true, true, true, true, true, true, true, true, true, true, true, true, true, true] rfl rfl (one_of HT_.out (by kernel_rfl)) (by decide) (fun K hK => ?_)
  have hs17 : w14.cell? ⟨gb178, 0, none⟩ = some (.int .i64 0) := (kC BK178.out 0).trans rfl
  have hfs17 := blk_frozen BK178.out 0
  have hns17_0 := NB167_178.out
  have hns17_1 := NB168_178.out
  have hms17_0 := NB178_167.out
  have hms17_1 := NB178_168.out
  have hs18 : w14.cell? ⟨gb178, 1, none⟩ = some (.int .i64 0) := (kC BK178.out 1).trans rfl
  have hfs18 := blk_frozen BK178.out 1
  have hns18_0 := NB167_178.out
  have hns18_1 := NB168_178.out
  have hms18_0 := NB178_167.out
  have hms18_1 := NB178_168.out
  have hs19 : w14.cell? ⟨gb178, 2, none⟩ = some (.int .i64 0) := (kC BK178.out 2).trans rfl
  have hfs19 := blk_frozen BK178.out 2
  have hns19_0 := NB167_178.out
  have hns19_1 := NB168_178.out
  have hms19_0 := NB178_167.out
  have hms19_1 := NB178_168.out
  have hs20 : w14.cell? ⟨gb178, 3, none⟩ = some (.int .i64 0) := (kC BK178.out 3).trans rfl
  have hfs20 := blk_frozen BK178.out 3
  have hns20_0 := NB167_178.out
  have hns20_1 := NB168_178.out
  have hms20_0 := NB178_167.out
  have hms20_1 := NB178_168.out
  have hs21 : w14.cell? ⟨gb178, 4, none⟩ = some (.slice none 0 0) := (kC BK178.out 4).trans rfl
  have hfs21 := blk_frozen BK178.out 4
  have hns21_0 := NB167_178.out
  have hns21_1 := NB168_178.out
  have hms21_0 := NB178_167.out
  have hms21_1 := NB178_168.out
  have hs22 : w14.cell? ⟨gb178, 5, none⟩ = some (.slice none 0 0) := (kC BK178.out 5).trans rfl
  have hfs22 := blk_frozen BK178.out 5
  have hns22_0 := NB167_178.out
  have hns22_1 := NB168_178.out
  have hms22_0 := NB178_167.out
  have hms22_1 := NB178_168.out
  have hs23 : w14.cell? ⟨gb178, 6, none⟩ = some (.slice none 0 0) := (kC BK178.out 6).trans rfl
  have hfs23 := blk_frozen BK178.out 6
  have hns23_0 := NB167_178.out
  have hns23_1 := NB168_178.out
  have hms23_0 := NB178_167.out
  have hms23_1 := NB178_168.out
  refine skip_ (w1 := ?_) (by rfl) rfl ?_ ?_
  rotate_left
  ·go_simp
   rfl
  refine hK.out _ _ ⟨((cell_far (p := ⟨gb178, _, none⟩) NB167_178.out _).trans (((cell_far (p := ⟨gb178, _, none⟩) NB167_178.out _).trans (((cell_far (p := ⟨gb178, _, none⟩) NB167_178.out _).trans (((cell_far (p := ⟨gb178, _, none⟩) NB167_178.out _).trans (((cell_far (p := ⟨gb178, _, none⟩) NB167_178.out _).trans (((cell_far (p := ⟨gb178, _, none⟩) NB167_178.out _).trans (((cell_far (p := ⟨gb178, _, none⟩) NB167_178.out _).trans (hHeld.1)))))))))))))), ((cell_far (p := ⟨gb178, _, none⟩) NB167_178.out _).trans (((cell_far (p := ⟨gb178, _, none⟩) NB167_178.out _).trans (((cell_far (p := ⟨gb178, _, none⟩) NB167_178.out _).trans (((cell_far (p := ⟨gb178, _, none⟩) NB167_178.out _).trans (((cell_far (p := ⟨gb178, _, none⟩) NB167_178.out _).trans (((cell_far (p := ⟨gb178, _, none⟩) NB167_178.out _).trans (((cell_far (p := ⟨gb178, _, none⟩) NB167_178.out _).trans (hHeld.2.1)))))))))))))), ((cell_far (p := ⟨gb178, _, none⟩) NB167_178.out _).trans (((cell_far (p := ⟨gb178, _, none⟩) NB167_178.out _).trans (((cell_far (p := ⟨gb178, _, none⟩) NB167_178.out _).trans (((cell_far (p := ⟨gb178, _, none⟩) NB167_178.out _).trans (((cell_far (p := ⟨gb178, _, none⟩) NB167_178.out _).trans (((cell_far (p := ⟨gb178, _, none⟩) NB167_178.out _).trans (((cell_far (p := ⟨gb178, _, none⟩) NB167_178.out _).trans (hHeld.2.2.1)))))))))))))), ((cell_far (p := ⟨gb178, _, none⟩) NB167_178.out _).trans (((cell_far (p := ⟨gb178, _, none⟩) NB167_178.out _).trans (((cell_far (p := ⟨gb178, _, none⟩) NB167_178.out _).trans (((cell_far (p := ⟨gb178, _, none⟩) NB167_178.out _).trans (((cell_far (p := ⟨gb178, _, none⟩) NB167_178.out _).trans (((cell_far (p := ⟨gb178, _, none⟩) NB167_178.out _).trans (((cell_far (p := ⟨gb178, _, none⟩) NB167_178.out _).trans (hHeld.2.2.2.1)))))))))))))), ((cell_far (p := ⟨gb178, _, none⟩) NB167_178.out _).trans (((cell_far (p := ⟨gb178, _, none⟩) NB167_178.out _).trans (((cell_far (p := ⟨gb178, _, none⟩) NB167_178.out _).trans (((cell_far (p := ⟨gb178, _, none⟩) NB167_178.out _).trans (((cell_far (p := ⟨gb178, _, none⟩) NB167_178.out _).trans (((cell_far (p := ⟨gb178, _, none⟩) NB167_178.out _).trans (((cell_far (p := ⟨gb178, _, none⟩) NB167_178.out _).trans (hHeld.2.2.2.2.1)))))))))))))), ((cell_far (p := ⟨gb178, _, none⟩) NB167_178.out _).trans (((cell_far (p := ⟨gb178, _, none⟩) NB167_178.out _).trans (((cell_far (p := ⟨gb178, _, none⟩) NB167_178.out _).trans (((cell_far (p := ⟨gb178, _, none⟩) NB167_178.out _).trans (((cell_far (p := ⟨gb178, _, none⟩) NB167_178.out _).trans (((cell_far (p := ⟨gb178, _, none⟩) NB167_178.out _).trans (((cell_far (p := ⟨gb178, _, none⟩) NB167_178.out _).trans (hHeld.2.2.2.2.2.1)))))))))))))), ((cell_far (p := ⟨gb178, _, none⟩) NB167_178.out _).trans (((cell_far (p := ⟨gb178, _, none⟩) NB167_178.out _).trans (((cell_far (p := ⟨gb178, _, none⟩) NB167_178.out _).trans (((cell_far (p := ⟨gb178, _, none⟩) NB167_178.out _).trans (((cell_far (p := ⟨gb178, _, none⟩) NB167_178.out _).trans (((cell_far (p := ⟨gb178, _, none⟩) NB167_178.out _).trans (((cell_far (p := ⟨gb178, _, none⟩) NB167_178.out _).trans (hHeld.2.2.2.2.2.2))))))))))))))⟩ (fun hHeld => ?_)
  clear hK K
  refine done_ (done_of HT_.out (by kernel_rfl)) ?_
  try go_wp2
  go_loopg [4] k (fun kq v4 w' => ∃ (x4_1 : Int) (x179006_1 : List (S147)) (u179006 : Value), v4 = .int .i64 x4_1 ∧ A0s (stopgatelaw05_To.l0 kq x4_1 a0_0 a0_1 a0_2 a0_3 l0_4 l0_5 l0_6 a0_0 a0_1 a0_2 a0_3 t169 y175 x179006_1 = some (r1, r2, r3, r4, r5, r6, r7)) ∧ A0s (kq ≤ k) ∧ A0s (Kd.R k178 178 w' w.heap.size (fun _ => True) (.slice Ao16 t169.length co16) t169) ∧ A0s (Kd.R (Kd.int .i64) 3 w' w.heap.size (fun _ => True) (.slice Ao15 y175.length co15) y175) ∧ A0s (Kd.R k147 147 w' w.heap.size (fun _ => True) u179006 x179006_1) ∧ A0s (w'.heap[gb167]? = some (.cells #[.int .i64 a0_0, .int .i64 a0_1, .int .i64 a0_2, .int .i64 a0_3, (.slice A0_4 l0_4.length c0_4), (.slice A0_5 l0_5.length c0_5), (.slice A0_6 l0_6.length c0_6)] 81 (0, 0))) ∧ A0s (w'.heap[gb168]? = some (.cells #[.int .i64 0, .int .i64 0, .int .i64 0, .int .i64 0, (.slice none 0 0), (.slice none 0 0), (.slice none 0 0)] 90 (0, 0))) ∧ A0s (w'.heap[gb178]? = some (.cells #[.int .i64 a0_0, .int .i64 a0_1, .int .i64 a0_2, .int .i64 a0_3, (.slice Ao16 t169.length co16), (.slice Ao15 y175.length co15), u179006] 90 (0, 0))) ∧ A0s (Below w.heap.size w w'))
  case atStart => exact ⟨(0), (([] : List (S147))), (.slice none 0 0), (by first | rfl | (simp; done) | (simp [*]; done)), H', ⟨Nat.le_refl _⟩, ⟨by (with_reducible repeat (first | apply Kd.RA | apply Kd.RN | apply Kd.RD)); exact Kd.R_mono (Kd.R_far (p := ⟨gb178, 6, none⟩) (Kd.R_far (p := ⟨gb178, 5, none⟩) (Kd.R_far (p := ⟨gb178, 4, none⟩) (Kd.R_far (p := ⟨gb178, 3, none⟩) (Kd.R_far (p := ⟨gb178, 2, none⟩) (Kd.R_far (p := ⟨gb178, 1, none⟩) (Kd.R_far (p := ⟨gb178, 0, none⟩) (Kd.R_types HO171.out BK178.out (by decide)) (fun _ hk => hk.2) (.int .i64 a0_0)) (fun _ hk => hk.2) (.int .i64 a0_1)) (fun _ hk => hk.2) (.int .i64 a0_2)) (fun _ hk => hk.2) (.int .i64 a0_3)) (fun _ hk => hk.2) (.slice Ao16 t169.length co16)) (fun _ hk => hk.2) (.slice Ao15 y175.length co15)) (fun _ hk => hk.2) (.slice none 0 0)) (fun _ hk => trivial)⟩, ⟨by (with_reducible repeat (first | apply Kd.RA | apply Kd.RN | apply Kd.RD)); exact Kd.R_mono (Kd.R_far (p := ⟨gb178, 6, none⟩) (Kd.R_far (p := ⟨gb178, 5, none⟩) (Kd.R_far (p := ⟨gb178, 4, none⟩) (Kd.R_far (p := ⟨gb178, 3, none⟩) (Kd.R_far (p := ⟨gb178, 2, none⟩) (Kd.R_far (p := ⟨gb178, 1, none⟩) (Kd.R_far (p := ⟨gb178, 0, none⟩) (Kd.R_types HO177.out BK178.out (by decide)) (fun _ hk => hk.2) (.int .i64 a0_0)) (fun _ hk => hk.2) (.int .i64 a0_1)) (fun _ hk => hk.2) (.int .i64 a0_2)) (fun _ hk => hk.2) (.int .i64 a0_3)) (fun _ hk => hk.2) (.slice Ao16 t169.length co16)) (fun _ hk => hk.2) (.slice Ao15 y175.length co15)) (fun _ hk => hk.2) (.slice none 0 0)) (fun _ hk => trivial)⟩, ⟨by first | exact Kd.R_nil _ _ _ _ _ | exact Kd.N_nil _ _ _ _ _ | exact Kd.V_nil _ _ _ _ _ | exact Kd.Q_nil _ _ _ _ _ | exact Kd.S_nil _ _ _ _ _⟩, ⟨by (with_reducible repeat (first | apply kN | apply kD | apply kA)); refine blk_far ?_ NB167_178.out _; (with_reducible repeat (first | apply kN | apply kD | apply kA)); refine blk_far ?_ NB167_178.out _; (with_reducible repeat (first | apply kN | apply kD | apply kA)); refine blk_far ?_ NB167_178.out _; (with_reducible repeat (first | apply kN | apply kD | apply kA)); refine blk_far ?_ NB167_178.out _; (with_reducible repeat (first | apply kN | apply kD | apply kA)); refine blk_far ?_ NB167_178.out _; (with_reducible repeat (first | apply kN | apply kD | apply kA)); refine blk_far ?_ NB167_178.out _; (with_reducible repeat (first | apply kN | apply kD | apply kA)); refine blk_far ?_ NB167_178.out _; (with_reducible repeat (first | apply kN | apply kD | apply kA)); exact BK167.out⟩, ⟨by (with_reducible repeat (first | apply kN | apply kD | apply kA)); refine blk_far ?_ NB168_178.out _; (with_reducible repeat (first | apply kN | apply kD | apply kA)); refine blk_far ?_ NB168_178.out _; (with_reducible repeat (first | apply kN | apply kD | apply kA)); refine blk_far ?_ NB168_178.out _; (with_reducible repeat (first | apply kN | apply kD | apply kA)); refine blk_far ?_ NB168_178.out _; (with_reducible repeat (first | apply kN | apply kD | apply kA)); refine blk_far ?_ NB168_178.out _; (with_reducible repeat (first | apply kN | apply kD | apply kA)); refine blk_far ?_ NB168_178.out _; (with_reducible repeat (first | apply kN | apply kD | apply kA)); refine blk_far ?_ NB168_178.out _; (with_reducible repeat (first | apply kN | apply kD | apply kA)); exact BK168.out⟩, ⟨by (with_reducible repeat (first | apply kN | apply kD | apply kA)); refine blk_put (cs := #[.int .i64 a0_0, .int .i64 a0_1, .int .i64 a0_2, .int .i64 a0_3, .slice Ao16 t169.length co16, .slice Ao15 y175.length co15, .slice none 0 0]) ?_ 6 _ rfl; (with_reducible repeat (first | apply kN | apply kD | apply kA)); refine blk_put (cs := #[.int .i64 a0_0, .int .i64 a0_1, .int .i64 a0_2, .int .i64 a0_3, .slice Ao16 t169.length co16, .slice none 0 0, .slice none 0 0]) ?_ 5 _ rfl; (with_reducible repeat (first | apply kN | apply kD | apply kA)); refine blk_put (cs := #[.int .i64 a0_0, .int .i64 a0_1, .int .i64 a0_2, .int .i64 a0_3, .slice none 0 0, .slice none 0 0, .slice none 0 0]) ?_ 4 _ rfl; (with_reducible repeat (first | apply kN | apply kD | apply kA)); refine blk_put (cs := #[.int .i64 a0_0, .int .i64 a0_1, .int .i64 a0_2, .int .i64 0, .slice none 0 0, .slice none 0 0, .slice none 0 0]) ?_ 3 _ rfl; (with_reducible repeat (first | apply kN | apply kD | apply kA)); refine blk_put (cs := #[.int .i64 a0_0, .int .i64 a0_1, .int .i64 0, .int .i64 0, .slice none 0 0, .slice none 0 0, .slice none 0 0]) ?_ 2 _ rfl; (with_reducible repeat (first | apply kN | apply kD | apply kA)); refine blk_put (cs := #[.int .i64 a0_0, .int .i64 0, .int .i64 0, .int .i64 0, .slice none 0 0, .slice none 0 0, .slice none 0 0]) ?_ 1 _ rfl; (with_reducible repeat (first | apply kN | apply kD | apply kA)); refine blk_put (cs := #[.int .i64 0, .int .i64 0, .int .i64 0, .int .i64 0, .slice none 0 0, .slice none 0 0, .slice none 0 0]) ?_ 0 _ rfl; (with_reducible repeat (first | apply kN | apply kD | apply kA)); exact BK178.out⟩, ⟨by repeat (first | (with_reducible first | exact HB.out | apply bA | apply bN | apply bD | refine bS ?_ GE167.out | refine bS ?_ GE168.out | refine bS ?_ GE178.out) | exact HB.out)⟩⟩
  case round =>
   clear H'
   try clear p2
   try clear c3
   try clear c7
   obtain ⟨x4_1, x179006_1, u179006, rfl, HA, HK1, HO_179004, HO_179005, HO_179006, BK167, BK168, BK178, HB⟩ := hrel
   cases gk with
   | zero => exact absurd HA.out (by simp [stopgatelaw05_To.l0])
   | succ k1 =>
    have H := HA.out
    clear HA
    simp only [stopgatelaw05_To.l0] at H
    by_cases c24 : x4_1 < (l0_6.length : Int)
    ·rw [if_pos c24] at H
     have c24b0 : decide (x4_1 < (l0_6.length : Int)) = true := decide_eq_true c24
     clear c24
     by_cases c25 : 0 ≤ x4_1
     ·rw [if_pos c25] at H
      have c25b0 : decide (0 ≤ x4_1) = true := decide_eq_true c25
      clear c25
      by_cases c26 : x179006_1.length < 4398046511104
      ·rw [if_pos c26] at H
       have LMc26 := A0s.mk c26
       clear c26
       obtain ⟨y181, hy181⟩ : ∃ y_ : List (S147), y_ = (x179006_1 ++ [(⟨(rd_T86 l0_6 x4_1).f0, (rd_T86 l0_6 x4_1).f1, (rd_T86 l0_6 x4_1).f2, (rd_T86 l0_6 x4_1).f3⟩ : S147)]) := ⟨_, rfl⟩
       replace H : (stopgatelaw05_To.l0 k1 (wrap64 (x4_1 + 1)) a0_0 a0_1 a0_2 a0_3 l0_4 l0_5 l0_6 a0_0 a0_1 a0_2 a0_3 t169 y175 y181) = some (r1, r2, r3, r4, r5, r6, r7) := by first | (rw [hy181]; with_reducible exact H) | (have H2_ := (Option.bind_some _ _).symm.trans H; rw [hy181]; with_reducible exact H2_) | (have H2_ := (Option.bind_some _ _).symm.trans H; with_reducible exact H2_) | with_reducible exact H | (rw [hy181]; exact H) | exact H
       have Ny181 := A0s.mk hy181
       clear hy181
       have H' := A0s.mk H
       clear H
       have hnb27 := NB167_168.out
       have hnc27 := NB168_167.out
       have hnb28 := NB167_178.out
       have hnc28 := NB178_167.out
       obtain ⟨hcz29_0, hcz29_1, hcz29_2, hcz29_3, hcz29_4, hcz29_5, hcz29_6, hfz29_0, hfz29_1, hfz29_2, hfz29_3, hfz29_4, hfz29_5, hfz29_6⟩ := blk_all7 BK167.out
       have p179 : 0 ≤ (x4_1 : Int) := of_decide_eq_true (by first | (with_reducible assumption) | assumption)
       have q179 : x4_1 < (l0_6.length : Int) := of_decide_eq_true (by first | (with_reducible assumption) | assumption)
       obtain ⟨ad179, e179, hx179_0, hx179_1, hx179_2, hx179_3⟩ := at_T86 HR0_6.out x4_1 p179 q179
       cases e179
       replace hx179_0 := (HB.out.cell (World.block_lt_of_cell? w _ hx179_0)).trans hx179_0
       replace hx179_1 := (HB.out.cell (World.block_lt_of_cell? w _ hx179_1)).trans hx179_1
       replace hx179_2 := (HB.out.cell (World.block_lt_of_cell? w _ hx179_2)).trans hx179_2
       replace hx179_3 := (HB.out.cell (World.block_lt_of_cell? w _ hx179_3)).trans hx179_3
       replace p179 := eq_true p179
       replace q179 := eq_true q179
       go_wp2_with (first | ((with_reducible refine gate_dst (N := 5) rfl ?_); refine box_event ?hg (N := 5) ?hd (cs := #[.int .i64 0, .int .i64 0, .int .i64 0, .float .f64 0]) (t := 86) ?hr ?_; (case hd => rfl); (case hg => rfl); (case hr => first | (go_simp; done) | (go_simp; rfl)); intro gb180 hg w30 hbox hb; have n0_ := A0s.mk (Kd.R_below (by (with_reducible repeat (first | apply Kd.RA | apply Kd.RN | apply Kd.RD)); exact HO_179004.out) hb); have n1_ := A0s.mk (Kd.R_below (by (with_reducible repeat (first | apply Kd.RA | apply Kd.RN | apply Kd.RD)); exact HO_179005.out) hb); have n2_ := A0s.mk (Kd.R_below (by (with_reducible repeat (first | apply Kd.RA | apply Kd.RN | apply Kd.RD)); exact HO_179006.out) hb); have n3_ := A0s.mk (blk_below (g := gb167) (o := .cells #[.int .i64 a0_0, .int .i64 a0_1, .int .i64 a0_2, .int .i64 a0_3, .slice A0_4 l0_4.length c0_4, .slice A0_5 l0_5.length c0_5, .slice (some ad179) l0_6.length c0_6] 81 (0, 0)) (by (with_reducible repeat (first | apply kN | apply kD | apply kA)); exact BK167.out) hb); have n4_ := A0s.mk (blk_below (g := gb168) (o := .cells #[.int .i64 0, .int .i64 0, .int .i64 0, .int .i64 0, .slice none 0 0, .slice none 0 0, .slice none 0 0] 90 (0, 0)) (by (with_reducible repeat (first | apply kN | apply kD | apply kA)); exact BK168.out) hb); have n5_ := A0s.mk (blk_below (g := gb178) (o := .cells #[.int .i64 a0_0, .int .i64 a0_1, .int .i64 a0_2, .int .i64 a0_3, .slice Ao16 t169.length co16, .slice Ao15 y175.length co15, u179006] 90 (0, 0)) (by (with_reducible repeat (first | apply kN | apply kD | apply kA)); exact BK178.out) hb); have n6_ := A0s.mk (below_step (by repeat (first | (with_reducible first | exact HB.out | apply bA | apply bN | apply bD | refine bS ?_ GE167.out | refine bS ?_ GE168.out | refine bS ?_ GE178.out) | exact HB.out)) hb); have n7_ := A0s.mk (hbox); have n8_ := A0s.mk ((by rw [hg]; exact (below_size (by repeat (first | (with_reducible first | exact HB.out | apply bA | apply bN | apply bD | refine bS ?_ GE167.out | refine bS ?_ GE168.out | refine bS ?_ GE178.out) | exact HB.out))) : w.heap.size ≤ gb180)); have n9_ := A0s.mk ((by rw [hg]; exact (below_size (by repeat (first | (with_reducible first | exact HB.out | apply bA | apply bN | apply bD | refine bS ?_ GE167.out | refine bS ?_ GE168.out | refine bS ?_ GE178.out) | exact HB.out))) : w.heap.size ≤ gb180)); have n10_ := A0s.mk ((by rw [hg]; exact Nat.ne_of_lt (blk_lt (g := gb167) (o := .cells #[.int .i64 a0_0, .int .i64 a0_1, .int .i64 a0_2, .int .i64 a0_3, .slice A0_4 l0_4.length c0_4, .slice A0_5 l0_5.length c0_5, .slice (some ad179) l0_6.length c0_6] 81 (0, 0)) (by (with_reducible repeat (first | apply kN | apply kD | apply kA)); exact BK167.out)) : gb167 ≠ gb180)); have n11_ := A0s.mk ((by rw [hg]; exact Nat.ne_of_gt (blk_lt (g := gb167) (o := .cells #[.int .i64 a0_0, .int .i64 a0_1, .int .i64 a0_2, .int .i64 a0_3, .slice A0_4 l0_4.length c0_4, .slice A0_5 l0_5.length c0_5, .slice (some ad179) l0_6.length c0_6] 81 (0, 0)) (by (with_reducible repeat (first | apply kN | apply kD | apply kA)); exact BK167.out)) : gb180 ≠ gb167)); have n12_ := A0s.mk ((by rw [hg]; exact Nat.ne_of_lt (blk_lt (g := gb168) (o := .cells #[.int .i64 0, .int .i64 0, .int .i64 0, .int .i64 0, .slice none 0 0, .slice none 0 0, .slice none 0 0] 90 (0, 0)) (by (with_reducible repeat (first | apply kN | apply kD | apply kA)); exact BK168.out)) : gb168 ≠ gb180)); have n13_ := A0s.mk ((by rw [hg]; exact Nat.ne_of_gt (blk_lt (g := gb168) (o := .cells #[.int .i64 0, .int .i64 0, .int .i64 0, .int .i64 0, .slice none 0 0, .slice none 0 0, .slice none 0 0] 90 (0, 0)) (by (with_reducible repeat (first | apply kN | apply kD | apply kA)); exact BK168.out)) : gb180 ≠ gb168)); have n14_ := A0s.mk ((by rw [hg]; exact Nat.ne_of_lt (blk_lt (g := gb178) (o := .cells #[.int .i64 a0_0, .int .i64 a0_1, .int .i64 a0_2, .int .i64 a0_3, .slice Ao16 t169.length co16, .slice Ao15 y175.length co15, u179006] 90 (0, 0)) (by (with_reducible repeat (first | apply kN | apply kD | apply kA)); exact BK178.out)) : gb178 ≠ gb180)); have n15_ := A0s.mk ((by rw [hg]; exact Nat.ne_of_gt (blk_lt (g := gb178) (o := .cells #[.int .i64 a0_0, .int .i64 a0_1, .int .i64 a0_2, .int .i64 a0_3, .slice Ao16 t169.length co16, .slice Ao15 y175.length co15, u179006] 90 (0, 0)) (by (with_reducible repeat (first | apply kN | apply kD | apply kA)); exact BK178.out)) : gb180 ≠ gb178)); clear HO_179004; clear HO_179005; clear HO_179006; clear BK167; clear BK168; clear BK178; clear HB; have HO_179004 := n0_; have HO_179005 := n1_; have HO_179006 := n2_; have BK167 := n3_; have BK168 := n4_; have BK178 := n5_; have HB := n6_; have BK180 := n7_; have GW180 := n8_; have GE180 := n9_; have NB167_180 := n10_; have NB180_167 := n11_; have NB168_180 := n12_; have NB180_168 := n13_; have NB178_180 := n14_; have NB180_178 := n15_; clear n0_ n1_ n2_ n3_ n4_ n5_ n6_ n7_ n8_ n9_ n10_ n11_ n12_ n13_ n14_ n15_; clear hb hbox hg; have hnb31 := NB180_167.out; have hnc31 := NB167_180.out; have hnb32 := NB180_168.out; have hnc32 := NB168_180.out; have hnb33 := NB180_178.out; have hnc33 := NB178_180.out; obtain ⟨hcz34_0, hcz34_1, hcz34_2, hcz34_3, hfz34_0, hfz34_1, hfz34_2, hfz34_3⟩ := blk_all4 BK180.out; have hnb35 := NB178_168.out; have hnc35 := NB168_178.out; obtain ⟨hcz36_0, hcz36_1, hcz36_2, hcz36_3, hcz36_4, hcz36_5, hcz36_6, hfz36_0, hfz36_1, hfz36_2, hfz36_3, hfz36_4, hfz36_5, hfz36_6⟩ := blk_all7 BK178.out) | ((with_reducible refine gate_builtin (b := .append) (xs := #[.tmp 35, .tmp 45]) rfl ?_); at_builtin; refine Kd.R_append k147 (w0 := w) w.heap.size rfl (.tmp 35) (.tmp 45) 88 147 (.agg #[(.int .i64 0), (.int .i64 0), (.int .i64 0), (.float .f64 0)]) 32 rfl Try.underlying88 info147 rfl (by decide) (by omega) u179006 x179006_1 (⟨(rd_T86 l0_6 x4_1).f0, (rd_T86 l0_6 x4_1).f1, (rd_T86 l0_6 x4_1).f2, (rd_T86 l0_6 x4_1).f3⟩ : S147) [.int .i64 ((rd_T86 l0_6 x4_1).f0), .int .i64 ((rd_T86 l0_6 x4_1).f1), .int .i64 ((rd_T86 l0_6 x4_1).f2), .float .f64 ((rd_T86 l0_6 x4_1).f3)] (fun _ => True) (fun _ => False) rfl (by first | (go_simp; done) | (go_simp; rfl)) ?aP (fun _ hk => hk.elim) ?aF ?aO ?aB ?aS ?aL ?_; (case aP => exact k147_mkM _ _ _ (⟨(rd_T86 l0_6 x4_1).f0, (rd_T86 l0_6 x4_1).f1, (rd_T86 l0_6 x4_1).f2, (rd_T86 l0_6 x4_1).f3⟩ : S147)); (case aB => exact (by repeat (first | (with_reducible first | exact HB.out | apply bA | apply bN | apply bD | refine bS ?_ GE167.out | refine bS ?_ GE168.out | refine bS ?_ GE178.out | refine bS ?_ GE180.out) | exact HB.out))); (case aF => exact (fun _ _ => trivial)); (case aO => exact (by (with_reducible repeat (first | apply Kd.RA | apply Kd.RN | apply Kd.RD)); exact Kd.R_mono (Kd.R_far (p := ⟨gb180, 3, none⟩) (Kd.R_far (p := ⟨gb180, 2, none⟩) (Kd.R_far (p := ⟨gb180, 1, none⟩) (Kd.R_far (p := ⟨gb180, 0, none⟩) (Kd.R_types HO_179006.out BK180.out (by decide)) (fun _ hk => hk.2) (.int .i64 ((rd_T86 l0_6 x4_1).f0))) (fun _ hk => hk.2) (.int .i64 ((rd_T86 l0_6 x4_1).f1))) (fun _ hk => hk.2) (.int .i64 ((rd_T86 l0_6 x4_1).f2))) (fun _ hk => hk.2) (.float .f64 ((rd_T86 l0_6 x4_1).f3))) (fun _ hk => trivial))); (case aS => exact (below_size (by repeat (first | (with_reducible first | exact HB.out | apply bA | apply bN | apply bD | refine bS ?_ GE167.out | refine bS ?_ GE168.out | refine bS ?_ GE178.out | refine bS ?_ GE180.out) | exact HB.out)))); (case aL => have := LMc26.out; omega); intro v182 w37 ho hb hg hat; rw [← Ny181.out] at ho; have n0_ := A0s.mk (Kd.R_over' (by (with_reducible repeat (first | apply Kd.RA | apply Kd.RN | apply Kd.RD)); exact (Kd.R_mono (Kd.R_far (p := ⟨gb180, 3, none⟩) (Kd.R_far (p := ⟨gb180, 2, none⟩) (Kd.R_far (p := ⟨gb180, 1, none⟩) (Kd.R_far (p := ⟨gb180, 0, none⟩) (Kd.R_types HO_179004.out BK180.out (by decide)) (fun _ hk => hk.2) (.int .i64 ((rd_T86 l0_6 x4_1).f0))) (fun _ hk => hk.2) (.int .i64 ((rd_T86 l0_6 x4_1).f1))) (fun _ hk => hk.2) (.int .i64 ((rd_T86 l0_6 x4_1).f2))) (fun _ hk => hk.2) (.float .f64 ((rd_T86 l0_6 x4_1).f3))) (fun _ h_ => h_.1))) (Kd.R_typed (by (with_reducible repeat (first | apply Kd.RA | apply Kd.RN | apply Kd.RD)); exact (Kd.R_mono (Kd.R_far (p := ⟨gb180, 3, none⟩) (Kd.R_far (p := ⟨gb180, 2, none⟩) (Kd.R_far (p := ⟨gb180, 1, none⟩) (Kd.R_far (p := ⟨gb180, 0, none⟩) (Kd.R_types HO_179006.out BK180.out (by decide)) (fun _ hk => hk.2) (.int .i64 ((rd_T86 l0_6 x4_1).f0))) (fun _ hk => hk.2) (.int .i64 ((rd_T86 l0_6 x4_1).f1))) (fun _ hk => hk.2) (.int .i64 ((rd_T86 l0_6 x4_1).f2))) (fun _ hk => hk.2) (.float .f64 ((rd_T86 l0_6 x4_1).f3))) (fun _ h_ => h_.1)))) (by decide) hg); have n1_ := A0s.mk (Kd.R_over' (by (with_reducible repeat (first | apply Kd.RA | apply Kd.RN | apply Kd.RD)); exact (Kd.R_mono (Kd.R_far (p := ⟨gb180, 3, none⟩) (Kd.R_far (p := ⟨gb180, 2, none⟩) (Kd.R_far (p := ⟨gb180, 1, none⟩) (Kd.R_far (p := ⟨gb180, 0, none⟩) (Kd.R_types HO_179005.out BK180.out (by decide)) (fun _ hk => hk.2) (.int .i64 ((rd_T86 l0_6 x4_1).f0))) (fun _ hk => hk.2) (.int .i64 ((rd_T86 l0_6 x4_1).f1))) (fun _ hk => hk.2) (.int .i64 ((rd_T86 l0_6 x4_1).f2))) (fun _ hk => hk.2) (.float .f64 ((rd_T86 l0_6 x4_1).f3))) (fun _ h_ => h_.1))) (Kd.R_typed (by (with_reducible repeat (first | apply Kd.RA | apply Kd.RN | apply Kd.RD)); exact (Kd.R_mono (Kd.R_far (p := ⟨gb180, 3, none⟩) (Kd.R_far (p := ⟨gb180, 2, none⟩) (Kd.R_far (p := ⟨gb180, 1, none⟩) (Kd.R_far (p := ⟨gb180, 0, none⟩) (Kd.R_types HO_179006.out BK180.out (by decide)) (fun _ hk => hk.2) (.int .i64 ((rd_T86 l0_6 x4_1).f0))) (fun _ hk => hk.2) (.int .i64 ((rd_T86 l0_6 x4_1).f1))) (fun _ hk => hk.2) (.int .i64 ((rd_T86 l0_6 x4_1).f2))) (fun _ hk => hk.2) (.float .f64 ((rd_T86 l0_6 x4_1).f3))) (fun _ h_ => h_.1)))) (by decide) hg); have n2_ := A0s.mk (blk_grown (g := gb167) (o := .cells #[.int .i64 a0_0, .int .i64 a0_1, .int .i64 a0_2, .int .i64 a0_3, .slice A0_4 l0_4.length c0_4, .slice A0_5 l0_5.length c0_5, .slice (some ad179) l0_6.length c0_6] 81 (0, 0)) (by (with_reducible repeat (first | apply kN | apply kD | apply kA)); refine blk_far ?_ NB167_180.out _; (with_reducible repeat (first | apply kN | apply kD | apply kA)); refine blk_far ?_ NB167_180.out _; (with_reducible repeat (first | apply kN | apply kD | apply kA)); refine blk_far ?_ NB167_180.out _; (with_reducible repeat (first | apply kN | apply kD | apply kA)); refine blk_far ?_ NB167_180.out _; (with_reducible repeat (first | apply kN | apply kD | apply kA)); exact BK167.out) hg (Kd.R_ne HO_179006.out BK167.out (by decide))); have n3_ := A0s.mk (blk_grown (g := gb168) (o := .cells #[.int .i64 0, .int .i64 0, .int .i64 0, .int .i64 0, .slice none 0 0, .slice none 0 0, .slice none 0 0] 90 (0, 0)) (by (with_reducible repeat (first | apply kN | apply kD | apply kA)); refine blk_far ?_ NB168_180.out _; (with_reducible repeat (first | apply kN | apply kD | apply kA)); refine blk_far ?_ NB168_180.out _; (with_reducible repeat (first | apply kN | apply kD | apply kA)); refine blk_far ?_ NB168_180.out _; (with_reducible repeat (first | apply kN | apply kD | apply kA)); refine blk_far ?_ NB168_180.out _; (with_reducible repeat (first | apply kN | apply kD | apply kA)); exact BK168.out) hg (Kd.R_ne HO_179006.out BK168.out (by decide))); have n4_ := A0s.mk (blk_grown (g := gb178) (o := .cells #[.int .i64 a0_0, .int .i64 a0_1, .int .i64 a0_2, .int .i64 a0_3, .slice Ao16 t169.length co16, .slice Ao15 y175.length co15, u179006] 90 (0, 0)) (by (with_reducible repeat (first | apply kN | apply kD | apply kA)); refine blk_far ?_ NB178_180.out _; (with_reducible repeat (first | apply kN | apply kD | apply kA)); refine blk_far ?_ NB178_180.out _; (with_reducible repeat (first | apply kN | apply kD | apply kA)); refine blk_far ?_ NB178_180.out _; (with_reducible repeat (first | apply kN | apply kD | apply kA)); refine blk_far ?_ NB178_180.out _; (with_reducible repeat (first | apply kN | apply kD | apply kA)); exact BK178.out) hg (Kd.R_ne HO_179006.out BK178.out (by decide))); have n5_ := A0s.mk (blk_grown (g := gb180) (o := .cells #[.int .i64 ((rd_T86 l0_6 x4_1).f0), .int .i64 ((rd_T86 l0_6 x4_1).f1), .int .i64 ((rd_T86 l0_6 x4_1).f2), .float .f64 ((rd_T86 l0_6 x4_1).f3)] 86 (0, 0)) (by (with_reducible repeat (first | apply kN | apply kD | apply kA)); refine blk_put (cs := #[.int .i64 ((rd_T86 l0_6 x4_1).f0), .int .i64 ((rd_T86 l0_6 x4_1).f1), .int .i64 ((rd_T86 l0_6 x4_1).f2), .float .f64 0]) ?_ 3 _ rfl; (with_reducible repeat (first | apply kN | apply kD | apply kA)); refine blk_put (cs := #[.int .i64 ((rd_T86 l0_6 x4_1).f0), .int .i64 ((rd_T86 l0_6 x4_1).f1), .int .i64 0, .float .f64 0]) ?_ 2 _ rfl; (with_reducible repeat (first | apply kN | apply kD | apply kA)); refine blk_put (cs := #[.int .i64 ((rd_T86 l0_6 x4_1).f0), .int .i64 0, .int .i64 0, .float .f64 0]) ?_ 1 _ rfl; (with_reducible repeat (first | apply kN | apply kD | apply kA)); refine blk_put (cs := #[.int .i64 0, .int .i64 0, .int .i64 0, .float .f64 0]) ?_ 0 _ rfl; (with_reducible repeat (first | apply kN | apply kD | apply kA)); exact BK180.out) hg (Kd.R_ne HO_179006.out BK180.out (by decide))); have n6_ := A0s.mk (hb); have n7_ := A0s.mk (ho); clear HO_179004; clear HO_179005; clear BK167; clear BK168; clear BK178; clear BK180; clear HB; clear HO_179006; have HO_179004 := n0_; have HO_179005 := n1_; have BK167 := n2_; have BK168 := n3_; have BK178 := n4_; have BK180 := n5_; have HB := n6_; have HO183 := n7_; clear n0_ n1_ n2_ n3_ n4_ n5_ n6_ n7_; clear ho hb hg hat; obtain ⟨Ao38, co38, eo38⟩ := Kd.R_slice HO183.out; subst eo38; obtain ⟨hcz39_0, hcz39_1, hcz39_2, hcz39_3, hcz39_4, hcz39_5, hcz39_6, hfz39_0, hfz39_1, hfz39_2, hfz39_3, hfz39_4, hfz39_5, hfz39_6⟩ := blk_all7 BK178.out))
       go_roundg k1
       case measure => have := HK1.out; omega
       case rel => exact ⟨(wrap64 (x4_1 + 1)), (y181), (.slice Ao38 y181.length co38), (by first | rfl | (simp; done) | (simp [*]; done)), H', ⟨by have := HK1.out; omega⟩, ⟨by (with_reducible repeat (first | apply Kd.RA | apply Kd.RN | apply Kd.RD)); exact Kd.R_mono (Kd.R_far (p := ⟨gb178, 6, none⟩) (Kd.R_types HO_179004.out BK178.out (by decide)) (fun _ hk => hk.2) (.slice Ao38 y181.length co38)) (fun _ hk => trivial)⟩, ⟨by (with_reducible repeat (first | apply Kd.RA | apply Kd.RN | apply Kd.RD)); exact Kd.R_mono (Kd.R_far (p := ⟨gb178, 6, none⟩) (Kd.R_types HO_179005.out BK178.out (by decide)) (fun _ hk => hk.2) (.slice Ao38 y181.length co38)) (fun _ hk => trivial)⟩, ⟨by (with_reducible repeat (first | apply Kd.RA | apply Kd.RN | apply Kd.RD)); exact Kd.R_mono (Kd.R_far (p := ⟨gb178, 6, none⟩) (Kd.R_types HO183.out BK178.out (by decide)) (fun _ hk => hk.2) (.slice Ao38 y181.length co38)) (fun _ hk => trivial)⟩, ⟨by (with_reducible repeat (first | apply kN | apply kD | apply kA)); refine blk_far ?_ NB167_178.out _; (with_reducible repeat (first | apply kN | apply kD | apply kA)); exact BK167.out⟩, ⟨by (with_reducible repeat (first | apply kN | apply kD | apply kA)); refine blk_far ?_ NB168_178.out _; (with_reducible repeat (first | apply kN | apply kD | apply kA)); exact BK168.out⟩, ⟨by (with_reducible repeat (first | apply kN | apply kD | apply kA)); refine blk_put (cs := #[.int .i64 a0_0, .int .i64 a0_1, .int .i64 a0_2, .int .i64 a0_3, .slice Ao16 t169.length co16, .slice Ao15 y175.length co15, u179006]) ?_ 6 _ rfl; (with_reducible repeat (first | apply kN | apply kD | apply kA)); exact BK178.out⟩, ⟨by repeat (first | (with_reducible first | exact HB.out | apply bA | apply bN | apply bD | refine bS ?_ GE167.out | refine bS ?_ GE168.out | refine bS ?_ GE178.out | refine bS ?_ GE180.out) | exact HB.out)⟩⟩
      ·rw [if_neg c26] at H
       exact absurd H (by simp)
     ·rw [if_neg c25] at H
      exact absurd H (by simp)
    ·rw [if_neg c24] at H
     have c24b0 : decide (x4_1 < (l0_6.length : Int)) = false := decide_eq_false c24
     clear c24
     simp only [Option.some.injEq, Prod.mk.injEq] at H
     obtain ⟨rfl, rfl, rfl, rfl, rfl, rfl, rfl⟩ := H
     have hnb40 := NB167_168.out
     have hnc40 := NB168_167.out
     have hnb41 := NB167_178.out
     have hnc41 := NB178_167.out
     obtain ⟨hcz42_0, hcz42_1, hcz42_2, hcz42_3, hcz42_4, hcz42_5, hcz42_6, hfz42_0, hfz42_1, hfz42_2, hfz42_3, hfz42_4, hfz42_5, hfz42_6⟩ := blk_all7 BK167.out
     have hnb43 := NB178_168.out
     have hnc43 := NB168_178.out
     obtain ⟨hcz44_0, hcz44_1, hcz44_2, hcz44_3, hcz44_4, hcz44_5, hcz44_6, hfz44_0, hfz44_1, hfz44_2, hfz44_3, hfz44_4, hfz44_5, hfz44_6⟩ := blk_all7 BK178.out
     obtain ⟨hcz45_0, hcz45_1, hcz45_2, hcz45_3, hcz45_4, hcz45_5, hcz45_6, hfz45_0, hfz45_1, hfz45_2, hfz45_3, hfz45_4, hfz45_5, hfz45_6⟩ := blk_all7 BK168.out
     obtain ⟨Ao46, co46, eo46⟩ := Kd.R_slice HO_179006.out
     subst eo46
     go_wp2
     refine bodyPost_ret (results_cell_row rfl _ _ gb168 90 #[.int .i64 a0_0, .int .i64 a0_1, .int .i64 a0_2, .int .i64 a0_3, .slice Ao16 t169.length co16, .slice Ao15 y175.length co15, .slice Ao46 x179006_1.length co46] (0, 0) _ rfl (by (with_reducible repeat (first | apply kN | apply kD | apply kA)); refine blk_put (cs := #[.int .i64 a0_0, .int .i64 a0_1, .int .i64 a0_2, .int .i64 a0_3, .slice Ao16 t169.length co16, .slice Ao15 y175.length co15, .slice none 0 0]) ?_ 6 _ rfl; (with_reducible repeat (first | apply kN | apply kD | apply kA)); refine blk_put (cs := #[.int .i64 a0_0, .int .i64 a0_1, .int .i64 a0_2, .int .i64 a0_3, .slice Ao16 t169.length co16, .slice none 0 0, .slice none 0 0]) ?_ 5 _ rfl; (with_reducible repeat (first | apply kN | apply kD | apply kA)); refine blk_put (cs := #[.int .i64 a0_0, .int .i64 a0_1, .int .i64 a0_2, .int .i64 a0_3, .slice none 0 0, .slice none 0 0, .slice none 0 0]) ?_ 4 _ rfl; (with_reducible repeat (first | apply kN | apply kD | apply kA)); refine blk_put (cs := #[.int .i64 a0_0, .int .i64 a0_1, .int .i64 a0_2, .int .i64 0, .slice none 0 0, .slice none 0 0, .slice none 0 0]) ?_ 3 _ rfl; (with_reducible repeat (first | apply kN | apply kD | apply kA)); refine blk_put (cs := #[.int .i64 a0_0, .int .i64 a0_1, .int .i64 0, .int .i64 0, .slice none 0 0, .slice none 0 0, .slice none 0 0]) ?_ 2 _ rfl; (with_reducible repeat (first | apply kN | apply kD | apply kA)); refine blk_put (cs := #[.int .i64 a0_0, .int .i64 0, .int .i64 0, .int .i64 0, .slice none 0 0, .slice none 0 0, .slice none 0 0]) ?_ 1 _ rfl; (with_reducible repeat (first | apply kN | apply kD | apply kA)); refine blk_put (cs := #[.int .i64 0, .int .i64 0, .int .i64 0, .int .i64 0, .slice none 0 0, .slice none 0 0, .slice none 0 0]) ?_ 0 _ rfl; (with_reducible repeat (first | apply kN | apply kD | apply kA)); exact BK168.out) Try.underlying90 rfl (by kernel_rfl)) rfl ?_
     exact ⟨_, _, _, by first | rfl | (simp [errW_none, errW_some] <;> rfl) | (simp [*, errW_none, errW_some] <;> rfl), by (with_reducible repeat (first | apply Kd.RA | apply Kd.RN | apply Kd.RD)); exact Kd.R_mono (Kd.R_far (p := ⟨gb168, 6, none⟩) (Kd.R_far (p := ⟨gb168, 5, none⟩) (Kd.R_far (p := ⟨gb168, 4, none⟩) (Kd.R_far (p := ⟨gb168, 3, none⟩) (Kd.R_far (p := ⟨gb168, 2, none⟩) (Kd.R_far (p := ⟨gb168, 1, none⟩) (Kd.R_far (p := ⟨gb168, 0, none⟩) (Kd.R_types HO_179004.out BK168.out (by decide)) (fun _ hk => hk.2) (.int .i64 a0_0)) (fun _ hk => hk.2) (.int .i64 a0_1)) (fun _ hk => hk.2) (.int .i64 a0_2)) (fun _ hk => hk.2) (.int .i64 a0_3)) (fun _ hk => hk.2) (.slice Ao16 t169.length co16)) (fun _ hk => hk.2) (.slice Ao15 y175.length co15)) (fun _ hk => hk.2) (.slice Ao46 x179006_1.length co46)) (fun _ hk => trivial), by (with_reducible repeat (first | apply Kd.RA | apply Kd.RN | apply Kd.RD)); exact Kd.R_mono (Kd.R_far (p := ⟨gb168, 6, none⟩) (Kd.R_far (p := ⟨gb168, 5, none⟩) (Kd.R_far (p := ⟨gb168, 4, none⟩) (Kd.R_far (p := ⟨gb168, 3, none⟩) (Kd.R_far (p := ⟨gb168, 2, none⟩) (Kd.R_far (p := ⟨gb168, 1, none⟩) (Kd.R_far (p := ⟨gb168, 0, none⟩) (Kd.R_types HO_179005.out BK168.out (by decide)) (fun _ hk => hk.2) (.int .i64 a0_0)) (fun _ hk => hk.2) (.int .i64 a0_1)) (fun _ hk => hk.2) (.int .i64 a0_2)) (fun _ hk => hk.2) (.int .i64 a0_3)) (fun _ hk => hk.2) (.slice Ao16 t169.length co16)) (fun _ hk => hk.2) (.slice Ao15 y175.length co15)) (fun _ hk => hk.2) (.slice Ao46 x179006_1.length co46)) (fun _ hk => trivial), by (with_reducible repeat (first | apply Kd.RA | apply Kd.RN | apply Kd.RD)); exact Kd.R_mono (Kd.R_far (p := ⟨gb168, 6, none⟩) (Kd.R_far (p := ⟨gb168, 5, none⟩) (Kd.R_far (p := ⟨gb168, 4, none⟩) (Kd.R_far (p := ⟨gb168, 3, none⟩) (Kd.R_far (p := ⟨gb168, 2, none⟩) (Kd.R_far (p := ⟨gb168, 1, none⟩) (Kd.R_far (p := ⟨gb168, 0, none⟩) (Kd.R_types HO_179006.out BK168.out (by decide)) (fun _ hk => hk.2) (.int .i64 a0_0)) (fun _ hk => hk.2) (.int .i64 a0_1)) (fun _ hk => hk.2) (.int .i64 a0_2)) (fun _ hk => hk.2) (.int .i64 a0_3)) (fun _ hk => hk.2) (.slice Ao16 t169.length co16)) (fun _ hk => hk.2) (.slice Ao15 y175.length co15)) (fun _ hk => hk.2) (.slice Ao46 x179006_1.length co46)) (fun _ hk => trivial), by repeat (first | (with_reducible first | exact HB.out | apply bA | apply bN | apply bD | refine bS ?_ GE167.out | refine bS ?_ GE168.out | refine bS ?_ GE178.out) | exact HB.out)⟩
 ·rw [if_neg c3] at H
  exact absurd H (by simp)

end Go.Proofs.Ytgikjgekdeaneaa.QRulesLooks
