/- The law WireAlls walked, by hand. -/
import Derived.Test.YtgikjgekdeaneaaWireC
namespace Go.Proofs.Ytgikjgekdeaneaa.Wire
open Go.RowKit Go.Proofs.Ytgikjgekdeaneaa.QWire Go.Proofs.YtgikjgekdeaneaaW.PrintWords Go.Proofs.YtgikjgekdeaneaaW.PrintLast Go.Proofs.YtgikjgekdeaneaaW.PrintMore Go.Proofs.Ytgikjgekdeaneaa.Own
set_option linter.unusedVariables false
set_option linter.unusedSimpArgs false
theorem eqA23 (d : Nat) (w : World) (x0 y0 : Int) (x1 y1 : Int) (x2 y2 : Bool) (x3 y3 : Int) (x4 y4 : Int) (x5 y5 : Int) (x6 y6 : Int) :
  (Op.equalIn (d + 2) 23 (.agg #[.int .i64 x0, .int .i64 x1, .bool x2, .int .i64 x3, .int .i64 x4, .int .i64 x5, .int .i64 x6]) (.agg #[.int .i64 y0, .int .i64 y1, .bool y2, .int .i64 y3, .int .i64 y4, .int .i64 y5, .int .i64 y6])).run Try.prog w = .ok (x0 == y0 && (x1 == y1 && (x2 == y2 && (x3 == y3 && (x4 == y4 && (x5 == y5 && (x6 == y6))))))) w := by
 refine eqA_of Try.underlying23 (by kernel_rfl) ?_
 refine eqf_cons (by rfl) (by go_simp; rfl) (by go_simp; rfl) (by go_simp) ?_
 refine eqf_cons (by rfl) (by go_simp; rfl) (by go_simp; rfl) (by go_simp) ?_
 refine eqf_cons (by rfl) (by go_simp; rfl) (by go_simp; rfl) (by go_simp) ?_
 refine eqf_cons (by rfl) (by go_simp; rfl) (by go_simp; rfl) (by go_simp) ?_
 refine eqf_cons (by rfl) (by go_simp; rfl) (by go_simp; rfl) (by go_simp) ?_
 refine eqf_cons (by rfl) (by go_simp; rfl) (by go_simp; rfl) (by go_simp) ?_
 exact eqf_last (by rfl) (by go_simp; rfl) (by go_simp; rfl) (by go_simp)
theorem eqA25 (d : Nat) (w : World) (x0 y0 : Int) (x1 y1 : Int) (x2 y2 : Int) (x3 y3 : Bool) (x4 y4 : Int) (x5 y5 : Int) (x6 y6 : Int) (x7 y7 : Int) (x8 y8 : Int) (x9 y9 : Int) (x10 y10 : Int) (x11 y11 : Int) :
  (Op.equalIn (d + 3) 25 (.agg #[.int .i64 x0, .int .i64 x1, .int .i64 x2, .bool x3, .int .i64 x4, .int .i64 x5, .int .i64 x6, .int .i64 x7, .int .i64 x8, .int .i64 x9, .int .i64 x10, .int .i64 x11]) (.agg #[.int .i64 y0, .int .i64 y1, .int .i64 y2, .bool y3, .int .i64 y4, .int .i64 y5, .int .i64 y6, .int .i64 y7, .int .i64 y8, .int .i64 y9, .int .i64 y10, .int .i64 y11])).run Try.prog w = .ok (x0 == y0 && ((x1 == y1 && (x2 == y2 && (x3 == y3 && (x4 == y4 && (x5 == y5 && (x6 == y6 && (x7 == y7))))))) && (x8 == y8 && (x9 == y9 && (x10 == y10 && (x11 == y11)))))) w := by
 refine eqA_of Try.underlying25 (by kernel_rfl) ?_
 refine eqf_cons (by rfl) (by go_simp; rfl) (by go_simp; rfl) (by go_simp) ?_
 refine eqf_cons (by rfl) (by go_simp) (by go_simp) (eqA23 (d + 0) w _ _ _ _ _ _ _ _ _ _ _ _ _ _) ?_
 refine eqf_cons (by rfl) (by go_simp; rfl) (by go_simp; rfl) (by go_simp) ?_
 refine eqf_cons (by rfl) (by go_simp; rfl) (by go_simp; rfl) (by go_simp) ?_
 refine eqf_cons (by rfl) (by go_simp; rfl) (by go_simp; rfl) (by go_simp) ?_
 exact eqf_last (by rfl) (by go_simp; rfl) (by go_simp; rfl) (by go_simp)

theorem from_ (k a s : Int) (b : Bool) (p q n t i y d m : Int) (w : World) : Calls Try.prog 23 #[.agg #[.int .i64 k, .int .i64 a, .int .i64 s, .bool b, .int .i64 p, .int .i64 q, .int .i64 n, .int .i64 t, .int .i64 i, .int .i64 y, .int .i64 d, .int .i64 m]] w fun e w' => e = .returned (.agg #[.int .i64 k, .int .i64 a, .int .i64 s, .bool b, .int .i64 p, .int .i64 q, .int .i64 n, .int .i64 t, .int .i64 i, .int .i64 y, .int .i64 d, .int .i64 m]) ∧ Below w.heap.size w w' :=
  stopgatelaw06_From.calls k a s b p q n t i y d m k a s b p q n t i y d m w rfl
theorem cell_b {w w1 : World} {a : Addr} {v : Value} (hb : Below w.drew.heap.size w.drew w1) (h : w.cell? a = some v) : w1.cell? a = some v := pw_cell_below (w := w.drew) hb h
theorem C_b {w w1 : World} {A : Option Addr} {n : Nat} {xs : List Msg} (hb : Below w.drew.heap.size w.drew w1) (h : Kd.C kM w A n xs) : Kd.C kM w1 A n xs := Kd.C_below (w := w.drew) h hb
theorem bel_b {w0 w w1 : World} (h : Below w0.heap.size w0 w) (hb : Below w.drew.heap.size w.drew w1) : Below w0.heap.size w0 w1 := below_step (W := w.drew) h.drew hb
def rdM (xs : List Msg) (i : Int) : Msg := xs.getD i.toNat zero
theorem at_M {w : World} {A : Option Addr} {n : Nat} {xs : List Msg} (h : Kd.C kM w A n xs) (i : Int) (h0 : 0 ≤ i) (h1 : i < n) : ∃ ad, A = some ad ∧ w.cell? (ad.add (i.toNat * 12)) = some (.int .i64 (rdM xs i).k) ∧ w.cell? ⟨(ad.add (i.toNat * 12)).block, (ad.add (i.toNat * 12)).off + 1, none⟩ = some (.int .i64 (rdM xs i).a) ∧ w.cell? ⟨(ad.add (i.toNat * 12)).block, (ad.add (i.toNat * 12)).off + 2, none⟩ = some (.int .i64 (rdM xs i).s) ∧ w.cell? ⟨(ad.add (i.toNat * 12)).block, (ad.add (i.toNat * 12)).off + 3, none⟩ = some (.bool (rdM xs i).b) ∧ w.cell? ⟨(ad.add (i.toNat * 12)).block, (ad.add (i.toNat * 12)).off + 4, none⟩ = some (.int .i64 (rdM xs i).p) ∧ w.cell? ⟨(ad.add (i.toNat * 12)).block, (ad.add (i.toNat * 12)).off + 5, none⟩ = some (.int .i64 (rdM xs i).q) ∧ w.cell? ⟨(ad.add (i.toNat * 12)).block, (ad.add (i.toNat * 12)).off + 6, none⟩ = some (.int .i64 (rdM xs i).n) ∧ w.cell? ⟨(ad.add (i.toNat * 12)).block, (ad.add (i.toNat * 12)).off + 7, none⟩ = some (.int .i64 (rdM xs i).t) ∧ w.cell? ⟨(ad.add (i.toNat * 12)).block, (ad.add (i.toNat * 12)).off + 8, none⟩ = some (.int .i64 (rdM xs i).i) ∧ w.cell? ⟨(ad.add (i.toNat * 12)).block, (ad.add (i.toNat * 12)).off + 9, none⟩ = some (.int .i64 (rdM xs i).y) ∧ w.cell? ⟨(ad.add (i.toNat * 12)).block, (ad.add (i.toNat * 12)).off + 10, none⟩ = some (.int .i64 (rdM xs i).d) ∧ w.cell? ⟨(ad.add (i.toNat * 12)).block, (ad.add (i.toNat * 12)).off + 11, none⟩ = some (.int .i64 (rdM xs i).m) := by
  obtain ⟨ad, c, e, _, hK, hc0⟩ := Kd.C_get h zero i h0 h1
  have hc : ∀ j u, c[j]? = some u → w.cell? (ad.add (i.toNat * 12 + j)) = some u := hc0
  have hK2 : c = (rdM xs i).l := hK
  subst hK2
  exact ⟨ad, e, hc 0 _ rfl, by rw [← add_field _ _ 1 (by omega)]; exact hc 1 _ rfl, by rw [← add_field _ _ 2 (by omega)]; exact hc 2 _ rfl, by rw [← add_field _ _ 3 (by omega)]; exact hc 3 _ rfl, by rw [← add_field _ _ 4 (by omega)]; exact hc 4 _ rfl, by rw [← add_field _ _ 5 (by omega)]; exact hc 5 _ rfl, by rw [← add_field _ _ 6 (by omega)]; exact hc 6 _ rfl, by rw [← add_field _ _ 7 (by omega)]; exact hc 7 _ rfl, by rw [← add_field _ _ 8 (by omega)]; exact hc 8 _ rfl, by rw [← add_field _ _ 9 (by omega)]; exact hc 9 _ rfl, by rw [← add_field _ _ 10 (by omega)]; exact hc 10 _ rfl, by rw [← add_field _ _ 11 (by omega)]; exact hc 11 _ rfl⟩
attribute [local go_sem] max2_int min2_int max_two min_two
attribute [local go_sem high] eqA25
set_option maxHeartbeats 8000000 in
set_option maxRecDepth 100000 in
theorem alls (A0 : Option Addr) (c0 : Nat) (l0 : List Int) (w : World) (hr : Kd.C (Kd.int .u8) w A0 l0.length l0) (hc : l0.length ≤ c0) (hB : Bytes l0) :
  Calls Try.prog 8 #[.slice A0 l0.length c0] w fun e w' => e = .returned (.bool true) ∧ Below w.heap.size w w' := by
 obtain ⟨l1, hl1⟩ : ∃ l1 : List Int, l1 = l0.take (min l0.length 600) := ⟨_, rfl⟩
 have hlt : l1.length = min l0.length 600 := by rw [hl1, List.length_take]; omega
 have hif : (if (600 : Int) < (l0.length : Int) then (600 : Int) else (l0.length : Int)) = (l1.length : Int) := by split <;> omega
 have q0 := eq_true (show (l1.length : Int) ≤ (c0 : Int) by omega)
 have HC1 : Aside0 (Kd.C (Kd.int .u8) w A0 l1.length l1) := ⟨by rw [hl1]; exact Kd.C_take hr (by omega)⟩
 have HN := Aside0.mk (show l1.length ≤ 600 ∧ l1.length ≤ c0 by omega)
 have HB1 : Aside0 (Bytes l1) := ⟨by rw [hl1]; exact hB.take _⟩
 obtain ⟨ms, b, hall⟩ : ∃ ms b, allM l1 = (ms, b) := ⟨_, _, rfl⟩
 have HA := Aside0.mk hall
 clear hr hlt hl1 hB hall
 go_enter Try.func8, Try.ntmps8
 go_wp2_with (fail)
 refine (all_ A0 c0 l1 _ HC1.out HN.out.2 HB1.out (by have := HN.out; omega)).mono ?_
 rintro e w1 ⟨⟨A1, c1, he, hc1, hC1⟩, hb1⟩
 rw [HA.out] at he hc1 hC1
 subst he
 have HM1 := Aside0.mk hC1
 have HD1 := Aside0.mk hb1
 clear hC1 hb1
 go_wp2_with (fail)
 refine (rall_ A0 c0 l1 _ (Kd.C_below HC1.out HD1.out) HN.out.2 HB1.out (by have := HN.out; omega)).mono ?_
 rintro e w2 ⟨⟨A2, c2, he, hc2, hC2⟩, hb2⟩
 rw [HA.out] at he hc2 hC2
 subst he
 have HM2 := Aside0.mk hC2
 have HM3 := Aside0.mk (Kd.C_below HM1.out hb2)
 have HD2 := Aside0.mk (below_step HD1.out hb2)
 clear hC2 hb2 HM1 HD1 hif q0
 go_wp2_with (fail)
 refine (told _).mono ?_
 rintro e w3 ⟨rfl, hb3⟩
 have HM4 := Aside0.mk (Kd.C_below HM3.out hb3)
 have HM5 := Aside0.mk (Kd.C_below HM2.out hb3)
 have HD3 := Aside0.mk (below_step HD2.out hb3)
 clear HM3 HM2 HD2 hb3
 unfold code
 have hml : ms.length ≤ 9223372036854775807 := HM4.out.2.1
 cases b
 all_goals
  go_wp2_with (fail)
  go_loopg [7] (ms.length + 1) (fun kq v7 w' => ∃ i : Int, v7 = .int .i64 i ∧ Aside0 ((ms.length : Int) + 1 ≤ kq + i ∧ 0 ≤ i ∧ i ≤ ms.length) ∧ Aside0 (Kd.C kM w' A1 ms.length ms) ∧ Aside0 (Kd.C kM w' A2 ms.length ms) ∧ Aside0 (Below w.heap.size w w'))
  case atStart => exact ⟨0, rfl, ⟨by omega⟩, HM4, HM5, HD3⟩
  case round =>
   obtain ⟨i, rfl, HI, HX, HY, HZ⟩ := hrel
   have hi := HI.out
   clear HM4 HM5 HD3
   by_cases c1 : i < ms.length
   · have c1b := decide_eq_true c1
     obtain ⟨a1, e1, x0, x1, x2, x3, x4, x5, x6, x7, x8, x9, x10, x11⟩ := at_M HX.out i hi.2.1 c1
     obtain ⟨a2, e2, y0, y1, y2, y3, y4, y5, y6, y7, y8, y9, y10, y11⟩ := at_M HY.out i hi.2.1 c1
     cases e1
     cases e2
     have p0 := eq_true hi.2.1
     have p1 := eq_true c1
     have e9 : wrap64 (i + 1) = i + 1 := by unfold wrap64; omega
     go_wp2_with (fail)
     go_region_with (go_at_call 23; refine (from_ _ _ _ _ _ _ _ _ _ _ _ _ _).mono ?_; rintro e w9 ⟨rfl, hb⟩; have z0 := cell_b hb y0; have z1 := cell_b hb y1; have z2 := cell_b hb y2; have z3 := cell_b hb y3; have z4 := cell_b hb y4; have z5 := cell_b hb y5; have z6 := cell_b hb y6; have z7 := cell_b hb y7; have z8 := cell_b hb y8; have z9 := cell_b hb y9; have z10 := cell_b hb y10; have z11 := cell_b hb y11; have HX9 := Aside0.mk (C_b hb HX.out); have HY9 := Aside0.mk (C_b hb HY.out); have HZ9 := Aside0.mk (bel_b HZ.out hb); clear hb)
     all_goals
      clear x0 x1 x2 x3 x4 x5 x6 x7 x8 x9 x10 x11 y0 y1 y2 y3 y4 y5 y6 y7 y8 y9 y10 y11 z0 z1 z2 z3 z4 z5 z6 z7 z8 z9 z10 z11
      go_wp2_with (fail)
      go_roundg ((ms.length : Int) - i).toNat
      case measure => omega
      case rel => exact ⟨i + 1, rfl, ⟨by omega⟩, HX9, HY9, HZ9⟩
   · have c1b := decide_eq_false c1
     go_wp2_with (fail)
     go_ret
     exact ⟨rfl, HZ.out⟩
end Go.Proofs.Ytgikjgekdeaneaa.Wire
