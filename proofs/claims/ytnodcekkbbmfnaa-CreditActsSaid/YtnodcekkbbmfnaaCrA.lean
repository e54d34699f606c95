/- The law CreditActs walked, by hand. -/
import Derived.Test.YtnodcekkbbmfnaaCrM
import Derived.Deep.CutBlock
import Derived.Deep.DeepCutAuto
namespace Go.Proofs.Ytnodcekkbbmfnaa.CrA
open Go.Proofs.Ytnodcekkbbmfnaa
open Go.RowKit Go.Proofs.Ytnodcekkbbmfnaa.CrM Go.Proofs.Ytnodcekkbbmfnaa.Seq Go.Proofs.Ytnodcekkbbmfnaa.QCrB Go.Proofs.YtnodcekkbbmfnaaW.PrintWords Go.Proofs.YtnodcekkbbmfnaaW.PrintLast Go.Proofs.YtnodcekkbbmfnaaW.PrintMore
open Go.Proofs.Ytnodcekkbbmfnaa.Pure (cv resF relF limF)
set_option linter.unusedVariables false
set_option linter.unusedSimpArgs false
theorem sz (w : World) (o : Obj) : (w.alloc o).heap.size = w.heap.size + 1 := by simp
theorem kd4 (q : Int) : wrap64 (Int.tmod (IntKind.u64.wrap q) 4) = 0 ∨ wrap64 (Int.tmod (IntKind.u64.wrap q) 4) = 1 ∨ wrap64 (Int.tmod (IntKind.u64.wrap q) 4) = 2 ∨ wrap64 (Int.tmod (IntKind.u64.wrap q) 4) = 3 := by
 have e : IntKind.u64.wrap q = q % 18446744073709551616 := rfl
 rw [e, Int.tmod_eq_emod_of_nonneg (by omega)]
 unfold wrap64
 omega
theorem va' {w wr : World} {B : List Own} {R : List Row} {v0 : Value} {t : List S68} (h : Cfg w wr B R) (hm : Row.a v0 (t.map cv) ∈ R) : ∃ A c, v0 = .slice A t.length c := by
 obtain ⟨A, c, e, _, _⟩ := h.va hm
 rw [List.length_map] at e
 exact ⟨A, c, e⟩
set_option maxHeartbeats 8000000 in
set_option maxRecDepth 100000 in
theorem acts (A0 : Option Addr) (c0 : Nat) (l0 : List S68) (A1 : Option Addr) (c1 : Nat) (l1 : List S74) (w : World) (hr0 : Kd.C k68 w A0 l0.length l0) (hc0 : l0.length ≤ c0) (hr1 : Kd.C k74 w A1 l1.length l1) (hc1 : l1.length ≤ c1) (hi1 : ∀ o ∈ l1, o.f2 ≤ 9223372036854775807) :
  Calls Try.prog 13 #[.slice A0 l0.length c0, .slice A1 l1.length c1] w fun e w' => e = .returned (.bool true) ∧ Below w.heap.size w w' := by
 obtain ⟨t0, hfix, hval, hpos, h10⟩ := Pure.fix_f l0 (k := 1000) (by omega)
 have hto := Pure.to_f t0 (by omega) (k := 1000) (by omega)
 have hbg := Pure.begin_f t0 (by omega)
 have hrb : stopgateref04_Begin.f t0 = some (t0, List.replicate t0.length 0) := by unfold stopgateref04_Begin.f; rw [if_pos (by omega), if_pos (by omega)]; rfl
 have GG : Pure.Good t0 (List.replicate t0.length 0) := ⟨hval, hpos, h10, Pure.inv_zero t0⟩
 generalize (List.replicate t0.length (0 : Int)) = us0 at hbg hrb GG
 have HFX := Aside0.mk hfix
 have HTO := Aside0.mk hto
 have HBG := Aside0.mk hbg
 have HRB := Aside0.mk hrb
 have HG := Aside0.mk GG
 have HR1 := Aside0.mk hr1
 have HI1 := Aside0.mk hi1
 clear hfix hto hbg hrb GG hr1 hval hpos h10 hi1
 go_enter Try.func13, Try.ntmps13
 go_wp2_with (fail)
 refine (fix_ 1000 (Cfg.init w) hr0 hc0 HFX.out).mono ?_
 rintro e w1 ⟨v, rfl, T⟩
 clear hr0
 go_wp2_with (fail)
 refine (rbegin_ T (show Row.b v t0 ∈ _ by simp) HRB.out).mono ?_
 rintro e w2 ⟨z0, z1, rfl, T2⟩
 clear T
 obtain ⟨zA, zc, rfl, _, _⟩ := Cfg.vb T2 (show Row.b z0 t0 ∈ _ by simp)
 obtain ⟨zB, zd, rfl, _, _⟩ := Cfg.vc T2 (show Row.c z1 us0 ∈ _ by simp)
 go_wp2_with (fail)
 refine (to_ 1000 (T2.alloc #[(.slice zA t0.length zc), (.slice zB us0.length zd)] 58) (show Row.b (.slice zA t0.length zc) t0 ∈ _ by simp) HTO.out).mono ?_
 rintro e w3 ⟨v3, rfl, T3⟩
 clear T2
 obtain ⟨vA, vc, rfl⟩ := va' T3 (show Row.a v3 (t0.map cv) ∈ _ by simp)
 generalize w2.heap.size = g5 at T3 ⊢
 go_wp2_with (fail)
 refine (begin_ T3 (show Row.a (.slice vA t0.length vc) (t0.map cv) ∈ _ by simp) HBG.out).mono ?_
 rintro e w4 ⟨s0, s1, rfl, T4⟩
 clear T3
 obtain ⟨sA, sc, rfl⟩ := va' T4 (show Row.a s0 (t0.map cv) ∈ _ by simp)
 obtain ⟨sB, sd, rfl, _, _⟩ := Cfg.vc T4 (show Row.c s1 us0 ∈ _ by simp)
 go_wp2_with (fail)
 have T5 := ((T4.alloc #[(.slice sA t0.length sc), (.slice sB us0.length sd)] 61).keep (R' := [Row.a (.slice sA t0.length sc) (t0.map cv), Row.c (.slice sB us0.length sd) us0, Row.b (.slice zA t0.length zc) t0, Row.c (.slice zB us0.length zd) us0]) (fun r hr => by simp only [List.mem_cons, List.not_mem_nil, or_false] at hr ⊢; rcases hr with rfl | rfl | rfl | rfl <;> simp)).drew
 clear T4
 generalize w4.alloc (.cells #[(.slice sA t0.length sc), (.slice sB us0.length sd)] 61) = w5 at T5 ⊢
 generalize w4.heap.size = g6 at T5 ⊢
 have HFR := Aside0.mk (Pure.from_f t0 (by have := HG.out.few; omega) us0 (by have h1 := HG.out.inv.len; have h2 := HG.out.few; omega) (k := 1000) (by have := HG.out.few; omega))
 have HSM := Aside0.mk (Pure.same_f t0 us0 (by have := HG.out.few; omega))
 refine wp_region_seq (fun w' => Cfg w w' [⟨g6, 61, #[(.slice sA t0.length sc), (.slice sB us0.length sd)]⟩, ⟨g5, 58, #[(.slice zA t0.length zc), (.slice zB us0.length zd)]⟩] [Row.a (.slice sA t0.length sc) (t0.map cv), Row.c (.slice sB us0.length sd) us0, Row.b (.slice zA t0.length zc) t0, Row.c (.slice zB us0.length zd) us0]) [0, 4, 6] [0, 1, 2, 3, 5, 4, 6, 7, 8] (by kernel_rfl) (by kernel_rfl) (by kernel_rfl) (by kernel_rfl) (by kernel_rfl) (fun _ _ d _ _ h => by cases d <;> exact h) ?h0 ?hseq
 case h0 => exact T5
 case hseq =>
  refine seq_op rfl (by kernel_rfl) (by rfl) (fun K hK => ?_)
  go_simp
  go_at_call 43
  refine (told_ T5).mono ?_
  rintro e u1 ⟨rfl, T6⟩
  refine hK _ _ T6 ?_
  clear hK K T5
  first | (refine seq_val (v := ?_) (a' := ?_) rfl ?_ ?_ ?_ ?_; rotate_left 2; (· rfl); (· intro w0 hS; go_simp; first | done | with_reducible rfl); (· go_simp; first | done | with_reducible rfl)) | (refine seq_off (a' := ?_) rfl ?_ ?_ ?_; rotate_left 1; (· rfl); (· go_simp; first | done | with_reducible rfl))
  first | (refine seq_val (v := ?_) (a' := ?_) rfl ?_ ?_ ?_ ?_; rotate_left 2; (· rfl); (· intro w0 hS; go_simp; first | done | with_reducible rfl); (· go_simp; first | done | with_reducible rfl)) | (refine seq_off (a' := ?_) rfl ?_ ?_ ?_; rotate_left 1; (· rfl); (· go_simp; first | done | with_reducible rfl))
  first | (refine seq_val (v := ?_) (a' := ?_) rfl ?_ ?_ ?_ ?_; rotate_left 2; (· rfl); (· intro w0 hS; have x0 := (hS.cell 0 rfl 0).trans rfl; have x1 := (hS.cell 0 rfl 1).trans rfl; go_simp; first | done | with_reducible rfl); (· go_simp; first | done | with_reducible rfl)) | (refine seq_off (a' := ?_) rfl ?_ ?_ ?_; rotate_left 1; (· rfl); (· go_simp; first | done | with_reducible rfl))
  first | (refine seq_val (v := ?_) (a' := ?_) rfl ?_ ?_ ?_ ?_; rotate_left 2; (· rfl); (· intro w0 hS; have x0 := (hS.cell 1 rfl 0).trans rfl; have x1 := (hS.cell 1 rfl 1).trans rfl; go_simp; first | done | with_reducible rfl); (· go_simp; first | done | with_reducible rfl)) | (refine seq_off (a' := ?_) rfl ?_ ?_ ?_; rotate_left 1; (· rfl); (· go_simp; first | done | with_reducible rfl))
  refine seq_op rfl (by kernel_rfl) (by rfl) (fun K hK => ?_)
  go_simp
  go_at_call 49
  refine (from_ 1000 T6 (show Row.a (.slice sA t0.length sc) (t0.map cv) ∈ _ by simp) (show Row.c (.slice sB us0.length sd) us0 ∈ _ by simp) HFR.out).mono ?_
  rintro e u2 ⟨f0, f1, rfl, T7⟩
  refine hK _ _ (T7.keep (fun r hr => by simp only [List.mem_cons, List.not_mem_nil, or_false] at hr ⊢; rcases hr with rfl | rfl | rfl | rfl <;> simp)) ?_
  clear hK K T6
  refine seq_op rfl (by kernel_rfl) (by rfl) (fun K hK => ?_)
  go_simp
  go_at_call 51
  refine (same_ 1000 T7 (show Row.b f0 t0 ∈ _ by simp) (show Row.c f1 us0 ∈ _ by simp) (show Row.b (.slice zA t0.length zc) t0 ∈ _ by simp) (show Row.c (.slice zB us0.length zd) us0 ∈ _ by simp) HSM.out).mono ?_
  rintro e u3 ⟨rfl, T8⟩
  refine hK _ _ (T8.keep (fun r hr => by simp only [List.mem_cons, List.not_mem_nil, or_false] at hr ⊢; rcases hr with rfl | rfl | rfl | rfl <;> simp)) ?_
  clear hK K T7
  first | (refine seq_val (v := ?_) (a' := ?_) rfl ?_ ?_ ?_ ?_; rotate_left 2; (· rfl); (· intro w0 hS; go_simp; first | done | with_reducible rfl); (· go_simp; first | done | with_reducible rfl)) | (refine seq_off (a' := ?_) rfl ?_ ?_ ?_; rotate_left 1; (· rfl); (· go_simp; first | done | with_reducible rfl))
  first | (refine seq_val (v := ?_) (a' := ?_) rfl ?_ ?_ ?_ ?_; rotate_left 2; (· rfl); (· intro w0 hS; go_simp; first | done | with_reducible rfl); (· go_simp; first | done | with_reducible rfl)) | (refine seq_off (a' := ?_) rfl ?_ ?_ ?_; rotate_left 1; (· rfl); (· go_simp; first | done | with_reducible rfl))
  refine seq_nil ?_
  have T9 := T8.keep (R' := [Row.a (.slice sA t0.length sc) (t0.map cv), Row.c (.slice sB us0.length sd) us0, Row.b (.slice zA t0.length zc) t0, Row.c (.slice zB us0.length zd) us0]) (fun r hr => by simp only [List.mem_cons, List.not_mem_nil, or_false] at hr ⊢; rcases hr with rfl | rfl | rfl | rfl <;> simp)
  clear T8 HFR HSM
  go_wp2_with (fail)
  go_loopg [7] (l1.length + 1) (fun kq v7 w' => ∃ (i : Int) (t : List S68) (us : List Int) (sA sB zA zB : Option Addr) (sc sd zc zd : Nat), v7 = .int .i64 i ∧ Aside0 ((l1.length : Int) + 1 ≤ kq + i ∧ 0 ≤ i ∧ i ≤ l1.length) ∧ Aside0 (Pure.Good t us) ∧ Aside0 (Cfg w w' [⟨g6, 61, #[(.slice sA t.length sc), (.slice sB us.length sd)]⟩, ⟨g5, 58, #[(.slice zA t.length zc), (.slice zB us.length zd)]⟩] [Row.a (.slice sA t.length sc) (t.map cv), Row.c (.slice sB us.length sd) us, Row.b (.slice zA t.length zc) t, Row.c (.slice zB us.length zd) us]))
  case atStart => exact ⟨0, t0, us0, sA, sB, zA, zB, sc, sd, zc, zd, rfl, ⟨by omega⟩, HG, ⟨T9⟩⟩
  case round =>
   obtain ⟨i, t, us, sA, sB, zA, zB, sc, sd, zc, zd, rfl, HI, HG2, HT⟩ := hrel
   have hi := HI.out
   clear T9
   by_cases k1 : i < l1.length
   · have c1b := decide_eq_true k1
     by_cases c2 : i < 60
     · have c2b := decide_eq_true c2
       have T := HT.out
       clear HT
       obtain ⟨a1, e1, x0, x1, x2⟩ := at_T74 (Kd.C_below HR1.out T.bel) i hi.2.1 k1
       cases e1
       have p0 := eq_true hi.2.1
       have p1 := eq_true k1
       have e9 : wrap64 (i + 1) = i + 1 := by unfold wrap64; omega
       have hq2 : (rd_T74 l1 i).f2 ≤ 9223372036854775807 := HI1.out _ (by unfold rd_T74; rw [List.getD_eq_getElem?_getD, List.getElem?_eq_getElem (by omega)]; exact List.getElem_mem _)
       generalize (rd_T74 l1 i).f0 = q0 at x0
       generalize (rd_T74 l1 i).f1 = q1 at x1
       generalize (rd_T74 l1 i).f2 = q2 at x2 hq2
       have HQ2 := Aside0.mk hq2
       clear hq2
       have HFR := Aside0.mk (Pure.from_f t (by have := HG2.out.few; omega) us (by have h1 := HG2.out.inv.len; have h2 := HG2.out.few; omega) (k := 1000) (by have := HG2.out.few; omega))
       have HSM := Aside0.mk (Pure.same_f t us (by have := HG2.out.few; omega))
       have T5 := T.alloc #[.int .i64 q0, .int .i64 q1, .int .i64 q2] 74
       have y0 := (T5.cell 1 rfl 0).trans rfl
       have y1 := (T5.cell 1 rfl 1).trans rfl
       go_wp2_with (fail)
       refine (from_ 1000 T5 (show Row.a (.slice sA t.length sc) (t.map cv) ∈ _ by simp) (show Row.c (.slice sB us.length sd) us ∈ _ by simp) HFR.out).mono ?_
       rintro e w6 ⟨h0, h1, rfl, T6⟩
       clear T T5 x0 x1 x2 y0 y1
       generalize wr.heap.size = g8 at T6 ⊢
       obtain ⟨hA, hc, rfl, _, _⟩ := Cfg.vb T6 (show Row.b h0 t ∈ _ by simp)
       obtain ⟨hB, hd, rfl, _, _⟩ := Cfg.vc T6 (show Row.c h1 us ∈ _ by simp)
       have T7 := ((((T6.alloc #[(.slice hA t.length hc), (.slice hB us.length hd)] 58).alloc #[.slice none 0 0, .slice none 0 0] 61).alloc #[.slice none 0 0, .slice none 0 0] 58).keep (R' := [Row.b (.slice hA t.length hc) t, Row.c (.slice hB us.length hd) us, Row.a (.slice sA t.length sc) (t.map cv), Row.c (.slice sB us.length sd) us, Row.b (.slice zA t.length zc) t, Row.c (.slice zB us.length zd) us]) (fun r hr => by simp only [List.mem_cons, List.not_mem_nil, or_false] at hr ⊢; rcases hr with rfl | rfl | rfl | rfl | rfl | rfl <;> simp))
       have y2 := (T7.cell 3 rfl 0).trans rfl
       clear T6
       go_upto_block 2 with (fail)
       clear y2
       simp only [sz] at T7 ⊢
       generalize ((w6.alloc (.cells #[(.slice hA t.length hc), (.slice hB us.length hd)] 58)).alloc (.cells #[.slice none 0 0, .slice none 0 0] 61)).alloc (.cells #[.slice none 0 0, .slice none 0 0] 58) = w7 at T7 ⊢
       generalize w6.heap.size + 1 + 1 = g11 at T7 ⊢
       generalize w6.heap.size + 1 = g10 at T7 ⊢
       generalize w6.heap.size = g9 at T7 ⊢
       have hk := kd4 q0
       generalize wrap64 (Int.tmod (IntKind.u64.wrap q0) 4) = kd at hk ⊢
       have HT := Aside0.mk T7
       clear T7
       go_cut [12] (fun v12 wc => ∃ (t' : List S68) (us' : List Int) (uA uB yA yB : Option Addr) (uc ud yc yd : Nat), v12 = .bool true ∧ Aside0 (Pure.Good t' us') ∧ Aside0 (Cfg w wc [⟨g11, 58, #[(.slice yA t'.length yc), (.slice yB us'.length yd)]⟩, ⟨g10, 61, #[(.slice uA t'.length uc), (.slice uB us'.length ud)]⟩, ⟨g9, 58, #[(.slice hA t.length hc), (.slice hB us.length hd)]⟩, ⟨g8, 74, #[.int .i64 q0, .int .i64 q1, .int .i64 q2]⟩, ⟨g6, 61, #[(.slice sA t.length sc), (.slice sB us.length sd)]⟩, ⟨g5, 58, #[(.slice zA t.length zc), (.slice zB us.length zd)]⟩] [Row.a (.slice uA t'.length uc) (t'.map cv), Row.c (.slice uB us'.length ud) us', Row.b (.slice yA t'.length yc) t', Row.c (.slice yB us'.length yd) us', Row.b (.slice hA t.length hc) t, Row.c (.slice hB us.length hd) us, Row.a (.slice sA t.length sc) (t.map cv), Row.c (.slice sB us.length sd) us, Row.b (.slice zA t.length zc) t, Row.c (.slice zB us.length zd) us]))
       case first =>
        have T7 := HT.out
        clear HT
        rcases hk with rfl | rfl | rfl | rfl
        · have g1 := Pure.resF_good HG2.out q1 q2
          have g2 := Pure.res_f t (by have := HG2.out.few; omega) HG2.out.cap us HG2.out.inv q1 q2 HQ2.out (k := 1000) (by omega)
          have g3 := Pure.rres_f HG2.out q1 q2 HQ2.out
          generalize resF t us q1 q2 = RR at g1 g2 g3
          obtain ⟨us', cd, nd⟩ := RR
          have K1 := Aside0.mk g1
          have K2 := Aside0.mk g2
          have K3 := Aside0.mk g3
          clear g1 g2 g3
          have m0 := (T7.cell 4 rfl 0).trans rfl
          have m1 := (T7.cell 4 rfl 1).trans rfl
          have m2 := (T7.cell 3 rfl 1).trans rfl
          have m3 := (T7.cell 3 rfl 2).trans rfl
          go_wp2_with (fail)
          refine (reserve_ 1000 q1 q2 T7 (show Row.a (.slice sA t.length sc) (t.map cv) ∈ _ by simp) (show Row.c (.slice sB us.length sd) us ∈ _ by simp) K2.out).mono ?_
          rintro e w8 ⟨u0, u1, rfl, T8⟩
          clear T7 m0 m1 m2 m3
          obtain ⟨uA, uc, rfl⟩ := va' T8 (show Row.a u0 (t.map cv) ∈ _ by simp)
          obtain ⟨uB, ud, rfl, _, _⟩ := Cfg.vc T8 (show Row.c u1 us' ∈ _ by simp)
          have T9 := T8.alloc #[(.slice uA t.length uc), (.slice uB us'.length ud)] 61
          clear T8
          have m0 := (T9.cell 6 rfl 0).trans rfl
          have m1 := (T9.cell 6 rfl 1).trans rfl
          have m2 := (T9.cell 4 rfl 1).trans rfl
          have m3 := (T9.cell 4 rfl 2).trans rfl
          go_wp2_with (fail)
          refine (rreserve_ 1000 q1 q2 T9 (show Row.b (.slice zA t.length zc) t ∈ _ by simp) (show Row.c (.slice zB us.length zd) us ∈ _ by simp) K3.out).mono ?_
          rintro e w9 ⟨y0, y1, rfl, T10⟩
          clear T9 m0 m1 m2 m3
          generalize w8.heap.size = g13 at T10 ⊢
          obtain ⟨yA, yc, rfl, _, _⟩ := Cfg.vb T10 (show Row.b y0 t ∈ _ by simp)
          obtain ⟨yB, yd, rfl, _, _⟩ := Cfg.vc T10 (show Row.c y1 us' ∈ _ by simp)
          go_wp2_with (fail)
          have T11 := ((T10.alloc #[(.slice yA t.length yc), (.slice yB us'.length yd)] 58).keep (R' := [Row.a (.slice uA t.length uc) (t.map cv), Row.c (.slice uB us'.length ud) us', Row.b (.slice yA t.length yc) t, Row.c (.slice yB us'.length yd) us', Row.b (.slice hA t.length hc) t, Row.c (.slice hB us.length hd) us, Row.a (.slice sA t.length sc) (t.map cv), Row.c (.slice sB us.length sd) us, Row.b (.slice zA t.length zc) t, Row.c (.slice zB us.length zd) us]) (fun r hr => by simp only [List.mem_cons, List.not_mem_nil, or_false] at hr ⊢; rcases hr with rfl | rfl | rfl | rfl | rfl | rfl | rfl | rfl | rfl | rfl <;> simp)).drew
          clear T10
          generalize w9.alloc (.cells #[(.slice yA t.length yc), (.slice yB us'.length yd)] 58) = w10 at T11 ⊢
          generalize w9.heap.size = g16 at T11 ⊢
          refine wp_region_seq (fun w' => Cfg w w' [⟨g16, 58, #[(.slice yA t.length yc), (.slice yB us'.length yd)]⟩, ⟨g13, 61, #[(.slice uA t.length uc), (.slice uB us'.length ud)]⟩] []) [10, 11] [0, 1, 2, 3, 4, 5, 6, 7, 8, 9, 10, 11, 12] (by kernel_rfl) (by kernel_rfl) (by kernel_rfl) (by kernel_rfl) (by kernel_rfl) (fun _ _ d _ _ h => by cases d <;> exact h) ?h0 ?hseq
          case h0 => exact (T11.take 2)
          case hseq =>
           generalize World.drew w10 = w11 at T11 ⊢
           first | (refine seq_val (v := ?_) (a' := ?_) rfl ?_ ?_ ?_ ?_; rotate_left 2; (· rfl); (· intro w0 hS; have x0 := (hS.cell 1 rfl 0).trans rfl; have x1 := (hS.cell 1 rfl 1).trans rfl; go_simp; first | done | with_reducible rfl); (· go_simp; first | done | with_reducible rfl)) | (refine seq_off (a' := ?_) rfl ?_ ?_ ?_; rotate_left 1; (· rfl); (· go_simp; first | done | with_reducible rfl))
           first | (refine seq_val (v := ?_) (a' := ?_) rfl ?_ ?_ ?_ ?_; rotate_left 2; (· rfl); (· intro w0 hS; have x0 := (hS.cell 0 rfl 0).trans rfl; have x1 := (hS.cell 0 rfl 1).trans rfl; go_simp; first | done | with_reducible rfl); (· go_simp; first | done | with_reducible rfl)) | (refine seq_off (a' := ?_) rfl ?_ ?_ ?_; rotate_left 1; (· rfl); (· go_simp; first | done | with_reducible rfl))
           first | (refine seq_val (v := ?_) (a' := ?_) rfl ?_ ?_ ?_ ?_; rotate_left 2; (· rfl); (· intro w0 hS; go_simp; first | done | with_reducible rfl); (· go_simp; first | done | with_reducible rfl)) | (refine seq_off (a' := ?_) rfl ?_ ?_ ?_; rotate_left 1; (· rfl); (· go_simp; first | done | with_reducible rfl))
           first | (refine seq_val (v := ?_) (a' := ?_) rfl ?_ ?_ ?_ ?_; rotate_left 2; (· rfl); (· intro w0 hS; go_simp; first | done | with_reducible rfl); (· go_simp; first | done | with_reducible rfl)) | (refine seq_off (a' := ?_) rfl ?_ ?_ ?_; rotate_left 1; (· rfl); (· go_simp; first | done | with_reducible rfl))
           first | (refine seq_val (v := ?_) (a' := ?_) rfl ?_ ?_ ?_ ?_; rotate_left 2; (· rfl); (· intro w0 hS; go_simp; first | done | with_reducible rfl); (· go_simp; first | done | with_reducible rfl)) | (refine seq_off (a' := ?_) rfl ?_ ?_ ?_; rotate_left 1; (· rfl); (· go_simp; first | done | with_reducible rfl))
           first | (refine seq_val (v := ?_) (a' := ?_) rfl ?_ ?_ ?_ ?_; rotate_left 2; (· rfl); (· intro w0 hS; go_simp; first | done | with_reducible rfl); (· go_simp; first | done | with_reducible rfl)) | (refine seq_off (a' := ?_) rfl ?_ ?_ ?_; rotate_left 1; (· rfl); (· go_simp; first | done | with_reducible rfl))
           first | (refine seq_val (v := ?_) (a' := ?_) rfl ?_ ?_ ?_ ?_; rotate_left 2; (· rfl); (· intro w0 hS; go_simp; first | done | with_reducible rfl); (· go_simp; first | done | with_reducible rfl)) | (refine seq_off (a' := ?_) rfl ?_ ?_ ?_; rotate_left 1; (· rfl); (· go_simp; first | done | with_reducible rfl))
           first | (refine seq_val (v := ?_) (a' := ?_) rfl ?_ ?_ ?_ ?_; rotate_left 2; (· rfl); (· intro w0 hS; go_simp; first | done | with_reducible rfl); (· go_simp; first | done | with_reducible rfl)) | (refine seq_off (a' := ?_) rfl ?_ ?_ ?_; rotate_left 1; (· rfl); (· go_simp; first | done | with_reducible rfl))
           first | (refine seq_val (v := ?_) (a' := ?_) rfl ?_ ?_ ?_ ?_; rotate_left 2; (· rfl); (· intro w0 hS; go_simp; first | done | with_reducible rfl); (· go_simp; first | done | with_reducible rfl)) | (refine seq_off (a' := ?_) rfl ?_ ?_ ?_; rotate_left 1; (· rfl); (· go_simp; first | done | with_reducible rfl))
           first | (refine seq_val (v := ?_) (a' := ?_) rfl ?_ ?_ ?_ ?_; rotate_left 2; (· rfl); (· intro w0 hS; go_simp; first | done | with_reducible rfl); (· go_simp; first | done | with_reducible rfl)) | (refine seq_off (a' := ?_) rfl ?_ ?_ ?_; rotate_left 1; (· rfl); (· go_simp; first | done | with_reducible rfl))
           refine seq_op rfl (by kernel_rfl) (by rfl) (fun K hK => ?_)
           have m0 := (T11.cell 3 rfl 0).trans rfl
           have m1 := (T11.cell 3 rfl 1).trans rfl
           have l0 := T11.froz 3 rfl 0
           have l1 := T11.froz 3 rfl 1
           go_simp
           have T12 : Cfg w _ [⟨g16, 58, #[(.slice yA t.length yc), (.slice yB us'.length yd)]⟩, ⟨g13, 61, #[(.slice uA t.length uc), (.slice uB us'.length ud)]⟩, ⟨g11, 58, #[.slice none 0 0, .slice none 0 0]⟩, ⟨g10, 61, #[(.slice uA t.length uc), (.slice uB us'.length ud)]⟩, ⟨g9, 58, #[(.slice hA t.length hc), (.slice hB us.length hd)]⟩, ⟨g8, 74, #[.int .i64 q0, .int .i64 q1, .int .i64 q2]⟩, ⟨g6, 61, #[(.slice sA t.length sc), (.slice sB us.length sd)]⟩, ⟨g5, 58, #[(.slice zA t.length zc), (.slice zB us.length zd)]⟩] [Row.a (.slice uA t.length uc) (t.map cv), Row.c (.slice uB us'.length ud) us', Row.b (.slice yA t.length yc) t, Row.c (.slice yB us'.length yd) us', Row.b (.slice hA t.length hc) t, Row.c (.slice hB us.length hd) us, Row.a (.slice sA t.length sc) (t.map cv), Row.c (.slice sB us.length sd) us, Row.b (.slice zA t.length zc) t, Row.c (.slice zB us.length zd) us] := (T11.set 3 rfl 0 (.slice uA t.length uc) rfl).set 3 rfl 1 (.slice uB us'.length ud) rfl
           clear m0 m1 l0 l1
           refine hK _ _ (T12.take 2) ?_
           clear hK K T11
           refine seq_op rfl (by kernel_rfl) (by rfl) (fun K hK => ?_)
           have m0 := (T12.cell 2 rfl 0).trans rfl
           have m1 := (T12.cell 2 rfl 1).trans rfl
           have l0 := T12.froz 2 rfl 0
           have l1 := T12.froz 2 rfl 1
           go_simp
           have T13 : Cfg w _ [⟨g16, 58, #[(.slice yA t.length yc), (.slice yB us'.length yd)]⟩, ⟨g13, 61, #[(.slice uA t.length uc), (.slice uB us'.length ud)]⟩, ⟨g11, 58, #[(.slice yA t.length yc), (.slice yB us'.length yd)]⟩, ⟨g10, 61, #[(.slice uA t.length uc), (.slice uB us'.length ud)]⟩, ⟨g9, 58, #[(.slice hA t.length hc), (.slice hB us.length hd)]⟩, ⟨g8, 74, #[.int .i64 q0, .int .i64 q1, .int .i64 q2]⟩, ⟨g6, 61, #[(.slice sA t.length sc), (.slice sB us.length sd)]⟩, ⟨g5, 58, #[(.slice zA t.length zc), (.slice zB us.length zd)]⟩] [Row.a (.slice uA t.length uc) (t.map cv), Row.c (.slice uB us'.length ud) us', Row.b (.slice yA t.length yc) t, Row.c (.slice yB us'.length yd) us', Row.b (.slice hA t.length hc) t, Row.c (.slice hB us.length hd) us, Row.a (.slice sA t.length sc) (t.map cv), Row.c (.slice sB us.length sd) us, Row.b (.slice zA t.length zc) t, Row.c (.slice zB us.length zd) us] := (T12.set 2 rfl 0 (.slice yA t.length yc) rfl).set 2 rfl 1 (.slice yB us'.length yd) rfl
           clear m0 m1 l0 l1
           refine hK _ _ (T13.take 2) ?_
           clear hK K T12
           first | (refine seq_val (v := ?_) (a' := ?_) rfl ?_ ?_ ?_ ?_; rotate_left 2; (· rfl); (· intro w0 hS; go_simp; first | done | with_reducible rfl); (· go_simp; first | done | with_reducible rfl)) | (refine seq_off (a' := ?_) rfl ?_ ?_ ?_; rotate_left 1; (· rfl); (· go_simp; first | done | with_reducible rfl))
           refine seq_nil ?_
           go_wp2_with (fail)
           go_meet
           case rel => exact ⟨t, us', uA, uB, yA, yB, uc, ud, yc, yd, rfl, K1, ⟨T13.drop 2⟩⟩
        · have g1 := Pure.resF_good HG2.out q1 q2
          have g2 := Pure.res_f t (by have := HG2.out.few; omega) HG2.out.cap us HG2.out.inv q1 q2 HQ2.out (k := 1000) (by omega)
          have g3 := Pure.rres_f HG2.out q1 q2 HQ2.out
          generalize resF t us q1 q2 = RR at g1 g2 g3
          obtain ⟨us', cd, nd⟩ := RR
          have K1 := Aside0.mk g1
          have K2 := Aside0.mk g2
          have K3 := Aside0.mk g3
          clear g1 g2 g3
          have m0 := (T7.cell 4 rfl 0).trans rfl
          have m1 := (T7.cell 4 rfl 1).trans rfl
          have m2 := (T7.cell 3 rfl 1).trans rfl
          have m3 := (T7.cell 3 rfl 2).trans rfl
          go_wp2_with (fail)
          refine (reserve_ 1000 q1 q2 T7 (show Row.a (.slice sA t.length sc) (t.map cv) ∈ _ by simp) (show Row.c (.slice sB us.length sd) us ∈ _ by simp) K2.out).mono ?_
          rintro e w8 ⟨u0, u1, rfl, T8⟩
          clear T7 m0 m1 m2 m3
          obtain ⟨uA, uc, rfl⟩ := va' T8 (show Row.a u0 (t.map cv) ∈ _ by simp)
          obtain ⟨uB, ud, rfl, _, _⟩ := Cfg.vc T8 (show Row.c u1 us' ∈ _ by simp)
          have T9 := T8.alloc #[(.slice uA t.length uc), (.slice uB us'.length ud)] 61
          clear T8
          have m0 := (T9.cell 6 rfl 0).trans rfl
          have m1 := (T9.cell 6 rfl 1).trans rfl
          have m2 := (T9.cell 4 rfl 1).trans rfl
          have m3 := (T9.cell 4 rfl 2).trans rfl
          go_wp2_with (fail)
          refine (rreserve_ 1000 q1 q2 T9 (show Row.b (.slice zA t.length zc) t ∈ _ by simp) (show Row.c (.slice zB us.length zd) us ∈ _ by simp) K3.out).mono ?_
          rintro e w9 ⟨y0, y1, rfl, T10⟩
          clear T9 m0 m1 m2 m3
          generalize w8.heap.size = g13 at T10 ⊢
          obtain ⟨yA, yc, rfl, _, _⟩ := Cfg.vb T10 (show Row.b y0 t ∈ _ by simp)
          obtain ⟨yB, yd, rfl, _, _⟩ := Cfg.vc T10 (show Row.c y1 us' ∈ _ by simp)
          go_wp2_with (fail)
          have T11 := ((T10.alloc #[(.slice yA t.length yc), (.slice yB us'.length yd)] 58).keep (R' := [Row.a (.slice uA t.length uc) (t.map cv), Row.c (.slice uB us'.length ud) us', Row.b (.slice yA t.length yc) t, Row.c (.slice yB us'.length yd) us', Row.b (.slice hA t.length hc) t, Row.c (.slice hB us.length hd) us, Row.a (.slice sA t.length sc) (t.map cv), Row.c (.slice sB us.length sd) us, Row.b (.slice zA t.length zc) t, Row.c (.slice zB us.length zd) us]) (fun r hr => by simp only [List.mem_cons, List.not_mem_nil, or_false] at hr ⊢; rcases hr with rfl | rfl | rfl | rfl | rfl | rfl | rfl | rfl | rfl | rfl <;> simp)).drew
          clear T10
          generalize w9.alloc (.cells #[(.slice yA t.length yc), (.slice yB us'.length yd)] 58) = w10 at T11 ⊢
          generalize w9.heap.size = g16 at T11 ⊢
          refine wp_region_seq (fun w' => Cfg w w' [⟨g16, 58, #[(.slice yA t.length yc), (.slice yB us'.length yd)]⟩, ⟨g13, 61, #[(.slice uA t.length uc), (.slice uB us'.length ud)]⟩] []) [10, 11] [0, 1, 2, 3, 4, 5, 6, 7, 8, 9, 10, 11, 12] (by kernel_rfl) (by kernel_rfl) (by kernel_rfl) (by kernel_rfl) (by kernel_rfl) (fun _ _ d _ _ h => by cases d <;> exact h) ?h0 ?hseq
          case h0 => exact (T11.take 2)
          case hseq =>
           generalize World.drew w10 = w11 at T11 ⊢
           first | (refine seq_val (v := ?_) (a' := ?_) rfl ?_ ?_ ?_ ?_; rotate_left 2; (· rfl); (· intro w0 hS; have x0 := (hS.cell 1 rfl 0).trans rfl; have x1 := (hS.cell 1 rfl 1).trans rfl; go_simp; first | done | with_reducible rfl); (· go_simp; first | done | with_reducible rfl)) | (refine seq_off (a' := ?_) rfl ?_ ?_ ?_; rotate_left 1; (· rfl); (· go_simp; first | done | with_reducible rfl))
           first | (refine seq_val (v := ?_) (a' := ?_) rfl ?_ ?_ ?_ ?_; rotate_left 2; (· rfl); (· intro w0 hS; have x0 := (hS.cell 0 rfl 0).trans rfl; have x1 := (hS.cell 0 rfl 1).trans rfl; go_simp; first | done | with_reducible rfl); (· go_simp; first | done | with_reducible rfl)) | (refine seq_off (a' := ?_) rfl ?_ ?_ ?_; rotate_left 1; (· rfl); (· go_simp; first | done | with_reducible rfl))
           first | (refine seq_val (v := ?_) (a' := ?_) rfl ?_ ?_ ?_ ?_; rotate_left 2; (· rfl); (· intro w0 hS; go_simp; first | done | with_reducible rfl); (· go_simp; first | done | with_reducible rfl)) | (refine seq_off (a' := ?_) rfl ?_ ?_ ?_; rotate_left 1; (· rfl); (· go_simp; first | done | with_reducible rfl))
           first | (refine seq_val (v := ?_) (a' := ?_) rfl ?_ ?_ ?_ ?_; rotate_left 2; (· rfl); (· intro w0 hS; go_simp; first | done | with_reducible rfl); (· go_simp; first | done | with_reducible rfl)) | (refine seq_off (a' := ?_) rfl ?_ ?_ ?_; rotate_left 1; (· rfl); (· go_simp; first | done | with_reducible rfl))
           first | (refine seq_val (v := ?_) (a' := ?_) rfl ?_ ?_ ?_ ?_; rotate_left 2; (· rfl); (· intro w0 hS; go_simp; first | done | with_reducible rfl); (· go_simp; first | done | with_reducible rfl)) | (refine seq_off (a' := ?_) rfl ?_ ?_ ?_; rotate_left 1; (· rfl); (· go_simp; first | done | with_reducible rfl))
           first | (refine seq_val (v := ?_) (a' := ?_) rfl ?_ ?_ ?_ ?_; rotate_left 2; (· rfl); (· intro w0 hS; go_simp; first | done | with_reducible rfl); (· go_simp; first | done | with_reducible rfl)) | (refine seq_off (a' := ?_) rfl ?_ ?_ ?_; rotate_left 1; (· rfl); (· go_simp; first | done | with_reducible rfl))
           first | (refine seq_val (v := ?_) (a' := ?_) rfl ?_ ?_ ?_ ?_; rotate_left 2; (· rfl); (· intro w0 hS; go_simp; first | done | with_reducible rfl); (· go_simp; first | done | with_reducible rfl)) | (refine seq_off (a' := ?_) rfl ?_ ?_ ?_; rotate_left 1; (· rfl); (· go_simp; first | done | with_reducible rfl))
           first | (refine seq_val (v := ?_) (a' := ?_) rfl ?_ ?_ ?_ ?_; rotate_left 2; (· rfl); (· intro w0 hS; go_simp; first | done | with_reducible rfl); (· go_simp; first | done | with_reducible rfl)) | (refine seq_off (a' := ?_) rfl ?_ ?_ ?_; rotate_left 1; (· rfl); (· go_simp; first | done | with_reducible rfl))
           first | (refine seq_val (v := ?_) (a' := ?_) rfl ?_ ?_ ?_ ?_; rotate_left 2; (· rfl); (· intro w0 hS; go_simp; first | done | with_reducible rfl); (· go_simp; first | done | with_reducible rfl)) | (refine seq_off (a' := ?_) rfl ?_ ?_ ?_; rotate_left 1; (· rfl); (· go_simp; first | done | with_reducible rfl))
           first | (refine seq_val (v := ?_) (a' := ?_) rfl ?_ ?_ ?_ ?_; rotate_left 2; (· rfl); (· intro w0 hS; go_simp; first | done | with_reducible rfl); (· go_simp; first | done | with_reducible rfl)) | (refine seq_off (a' := ?_) rfl ?_ ?_ ?_; rotate_left 1; (· rfl); (· go_simp; first | done | with_reducible rfl))
           refine seq_op rfl (by kernel_rfl) (by rfl) (fun K hK => ?_)
           have m0 := (T11.cell 3 rfl 0).trans rfl
           have m1 := (T11.cell 3 rfl 1).trans rfl
           have l0 := T11.froz 3 rfl 0
           have l1 := T11.froz 3 rfl 1
           go_simp
           have T12 : Cfg w _ [⟨g16, 58, #[(.slice yA t.length yc), (.slice yB us'.length yd)]⟩, ⟨g13, 61, #[(.slice uA t.length uc), (.slice uB us'.length ud)]⟩, ⟨g11, 58, #[.slice none 0 0, .slice none 0 0]⟩, ⟨g10, 61, #[(.slice uA t.length uc), (.slice uB us'.length ud)]⟩, ⟨g9, 58, #[(.slice hA t.length hc), (.slice hB us.length hd)]⟩, ⟨g8, 74, #[.int .i64 q0, .int .i64 q1, .int .i64 q2]⟩, ⟨g6, 61, #[(.slice sA t.length sc), (.slice sB us.length sd)]⟩, ⟨g5, 58, #[(.slice zA t.length zc), (.slice zB us.length zd)]⟩] [Row.a (.slice uA t.length uc) (t.map cv), Row.c (.slice uB us'.length ud) us', Row.b (.slice yA t.length yc) t, Row.c (.slice yB us'.length yd) us', Row.b (.slice hA t.length hc) t, Row.c (.slice hB us.length hd) us, Row.a (.slice sA t.length sc) (t.map cv), Row.c (.slice sB us.length sd) us, Row.b (.slice zA t.length zc) t, Row.c (.slice zB us.length zd) us] := (T11.set 3 rfl 0 (.slice uA t.length uc) rfl).set 3 rfl 1 (.slice uB us'.length ud) rfl
           clear m0 m1 l0 l1
           refine hK _ _ (T12.take 2) ?_
           clear hK K T11
           refine seq_op rfl (by kernel_rfl) (by rfl) (fun K hK => ?_)
           have m0 := (T12.cell 2 rfl 0).trans rfl
           have m1 := (T12.cell 2 rfl 1).trans rfl
           have l0 := T12.froz 2 rfl 0
           have l1 := T12.froz 2 rfl 1
           go_simp
           have T13 : Cfg w _ [⟨g16, 58, #[(.slice yA t.length yc), (.slice yB us'.length yd)]⟩, ⟨g13, 61, #[(.slice uA t.length uc), (.slice uB us'.length ud)]⟩, ⟨g11, 58, #[(.slice yA t.length yc), (.slice yB us'.length yd)]⟩, ⟨g10, 61, #[(.slice uA t.length uc), (.slice uB us'.length ud)]⟩, ⟨g9, 58, #[(.slice hA t.length hc), (.slice hB us.length hd)]⟩, ⟨g8, 74, #[.int .i64 q0, .int .i64 q1, .int .i64 q2]⟩, ⟨g6, 61, #[(.slice sA t.length sc), (.slice sB us.length sd)]⟩, ⟨g5, 58, #[(.slice zA t.length zc), (.slice zB us.length zd)]⟩] [Row.a (.slice uA t.length uc) (t.map cv), Row.c (.slice uB us'.length ud) us', Row.b (.slice yA t.length yc) t, Row.c (.slice yB us'.length yd) us', Row.b (.slice hA t.length hc) t, Row.c (.slice hB us.length hd) us, Row.a (.slice sA t.length sc) (t.map cv), Row.c (.slice sB us.length sd) us, Row.b (.slice zA t.length zc) t, Row.c (.slice zB us.length zd) us] := (T12.set 2 rfl 0 (.slice yA t.length yc) rfl).set 2 rfl 1 (.slice yB us'.length yd) rfl
           clear m0 m1 l0 l1
           refine hK _ _ (T13.take 2) ?_
           clear hK K T12
           first | (refine seq_val (v := ?_) (a' := ?_) rfl ?_ ?_ ?_ ?_; rotate_left 2; (· rfl); (· intro w0 hS; go_simp; first | done | with_reducible rfl); (· go_simp; first | done | with_reducible rfl)) | (refine seq_off (a' := ?_) rfl ?_ ?_ ?_; rotate_left 1; (· rfl); (· go_simp; first | done | with_reducible rfl))
           refine seq_nil ?_
           go_wp2_with (fail)
           go_meet
           case rel => exact ⟨t, us', uA, uB, yA, yB, uc, ud, yc, yd, rfl, K1, ⟨T13.drop 2⟩⟩
        · have g1 := Pure.relF_good HG2.out q1 q2
          have g2 := Pure.rel_f HG2.out q1 q2
          have g3 := Pure.rrel_f HG2.out q1 q2
          generalize relF t us q1 q2 = RR at g1 g2 g3
          obtain ⟨us', cd⟩ := RR
          have K1 := Aside0.mk g1
          have K2 := Aside0.mk g2
          have K3 := Aside0.mk g3
          clear g1 g2 g3
          have m0 := (T7.cell 4 rfl 0).trans rfl
          have m1 := (T7.cell 4 rfl 1).trans rfl
          have m2 := (T7.cell 3 rfl 1).trans rfl
          have m3 := (T7.cell 3 rfl 2).trans rfl
          go_wp2_with (fail)
          refine (release_ 1000 q1 q2 T7 (show Row.a (.slice sA t.length sc) (t.map cv) ∈ _ by simp) (show Row.c (.slice sB us.length sd) us ∈ _ by simp) K2.out).mono ?_
          rintro e w8 ⟨u0, u1, rfl, T8⟩
          clear T7 m0 m1 m2 m3
          obtain ⟨uA, uc, rfl⟩ := va' T8 (show Row.a u0 (t.map cv) ∈ _ by simp)
          obtain ⟨uB, ud, rfl, _, _⟩ := Cfg.vc T8 (show Row.c u1 us' ∈ _ by simp)
          have T9 := T8.alloc #[(.slice uA t.length uc), (.slice uB us'.length ud)] 61
          clear T8
          have m0 := (T9.cell 6 rfl 0).trans rfl
          have m1 := (T9.cell 6 rfl 1).trans rfl
          have m2 := (T9.cell 4 rfl 1).trans rfl
          have m3 := (T9.cell 4 rfl 2).trans rfl
          go_wp2_with (fail)
          refine (rrelease_ 1000 q1 q2 T9 (show Row.b (.slice zA t.length zc) t ∈ _ by simp) (show Row.c (.slice zB us.length zd) us ∈ _ by simp) K3.out).mono ?_
          rintro e w9 ⟨y0, y1, rfl, T10⟩
          clear T9 m0 m1 m2 m3
          generalize w8.heap.size = g13 at T10 ⊢
          obtain ⟨yA, yc, rfl, _, _⟩ := Cfg.vb T10 (show Row.b y0 t ∈ _ by simp)
          obtain ⟨yB, yd, rfl, _, _⟩ := Cfg.vc T10 (show Row.c y1 us' ∈ _ by simp)
          go_wp2_with (fail)
          have T11 := ((T10.alloc #[(.slice yA t.length yc), (.slice yB us'.length yd)] 58).keep (R' := [Row.a (.slice uA t.length uc) (t.map cv), Row.c (.slice uB us'.length ud) us', Row.b (.slice yA t.length yc) t, Row.c (.slice yB us'.length yd) us', Row.b (.slice hA t.length hc) t, Row.c (.slice hB us.length hd) us, Row.a (.slice sA t.length sc) (t.map cv), Row.c (.slice sB us.length sd) us, Row.b (.slice zA t.length zc) t, Row.c (.slice zB us.length zd) us]) (fun r hr => by simp only [List.mem_cons, List.not_mem_nil, or_false] at hr ⊢; rcases hr with rfl | rfl | rfl | rfl | rfl | rfl | rfl | rfl | rfl | rfl <;> simp)).drew
          clear T10
          generalize w9.alloc (.cells #[(.slice yA t.length yc), (.slice yB us'.length yd)] 58) = w10 at T11 ⊢
          generalize w9.heap.size = g16 at T11 ⊢
          refine wp_region_seq (fun w' => Cfg w w' [⟨g16, 58, #[(.slice yA t.length yc), (.slice yB us'.length yd)]⟩, ⟨g13, 61, #[(.slice uA t.length uc), (.slice uB us'.length ud)]⟩] []) [5, 6] [0, 1, 2, 3, 4, 5, 6, 7] (by kernel_rfl) (by kernel_rfl) (by kernel_rfl) (by kernel_rfl) (by kernel_rfl) (fun _ _ d _ _ h => by cases d <;> exact h) ?h0 ?hseq
          case h0 => exact (T11.take 2)
          case hseq =>
           generalize World.drew w10 = w11 at T11 ⊢
           first | (refine seq_val (v := ?_) (a' := ?_) rfl ?_ ?_ ?_ ?_; rotate_left 2; (· rfl); (· intro w0 hS; have x0 := (hS.cell 1 rfl 0).trans rfl; have x1 := (hS.cell 1 rfl 1).trans rfl; go_simp; first | done | with_reducible rfl); (· go_simp; first | done | with_reducible rfl)) | (refine seq_off (a' := ?_) rfl ?_ ?_ ?_; rotate_left 1; (· rfl); (· go_simp; first | done | with_reducible rfl))
           first | (refine seq_val (v := ?_) (a' := ?_) rfl ?_ ?_ ?_ ?_; rotate_left 2; (· rfl); (· intro w0 hS; have x0 := (hS.cell 0 rfl 0).trans rfl; have x1 := (hS.cell 0 rfl 1).trans rfl; go_simp; first | done | with_reducible rfl); (· go_simp; first | done | with_reducible rfl)) | (refine seq_off (a' := ?_) rfl ?_ ?_ ?_; rotate_left 1; (· rfl); (· go_simp; first | done | with_reducible rfl))
           first | (refine seq_val (v := ?_) (a' := ?_) rfl ?_ ?_ ?_ ?_; rotate_left 2; (· rfl); (· intro w0 hS; go_simp; first | done | with_reducible rfl); (· go_simp; first | done | with_reducible rfl)) | (refine seq_off (a' := ?_) rfl ?_ ?_ ?_; rotate_left 1; (· rfl); (· go_simp; first | done | with_reducible rfl))
           first | (refine seq_val (v := ?_) (a' := ?_) rfl ?_ ?_ ?_ ?_; rotate_left 2; (· rfl); (· intro w0 hS; go_simp; first | done | with_reducible rfl); (· go_simp; first | done | with_reducible rfl)) | (refine seq_off (a' := ?_) rfl ?_ ?_ ?_; rotate_left 1; (· rfl); (· go_simp; first | done | with_reducible rfl))
           first | (refine seq_val (v := ?_) (a' := ?_) rfl ?_ ?_ ?_ ?_; rotate_left 2; (· rfl); (· intro w0 hS; go_simp; first | done | with_reducible rfl); (· go_simp; first | done | with_reducible rfl)) | (refine seq_off (a' := ?_) rfl ?_ ?_ ?_; rotate_left 1; (· rfl); (· go_simp; first | done | with_reducible rfl))
           refine seq_op rfl (by kernel_rfl) (by rfl) (fun K hK => ?_)
           have m0 := (T11.cell 3 rfl 0).trans rfl
           have m1 := (T11.cell 3 rfl 1).trans rfl
           have l0 := T11.froz 3 rfl 0
           have l1 := T11.froz 3 rfl 1
           go_simp
           have T12 : Cfg w _ [⟨g16, 58, #[(.slice yA t.length yc), (.slice yB us'.length yd)]⟩, ⟨g13, 61, #[(.slice uA t.length uc), (.slice uB us'.length ud)]⟩, ⟨g11, 58, #[.slice none 0 0, .slice none 0 0]⟩, ⟨g10, 61, #[(.slice uA t.length uc), (.slice uB us'.length ud)]⟩, ⟨g9, 58, #[(.slice hA t.length hc), (.slice hB us.length hd)]⟩, ⟨g8, 74, #[.int .i64 q0, .int .i64 q1, .int .i64 q2]⟩, ⟨g6, 61, #[(.slice sA t.length sc), (.slice sB us.length sd)]⟩, ⟨g5, 58, #[(.slice zA t.length zc), (.slice zB us.length zd)]⟩] [Row.a (.slice uA t.length uc) (t.map cv), Row.c (.slice uB us'.length ud) us', Row.b (.slice yA t.length yc) t, Row.c (.slice yB us'.length yd) us', Row.b (.slice hA t.length hc) t, Row.c (.slice hB us.length hd) us, Row.a (.slice sA t.length sc) (t.map cv), Row.c (.slice sB us.length sd) us, Row.b (.slice zA t.length zc) t, Row.c (.slice zB us.length zd) us] := (T11.set 3 rfl 0 (.slice uA t.length uc) rfl).set 3 rfl 1 (.slice uB us'.length ud) rfl
           clear m0 m1 l0 l1
           refine hK _ _ (T12.take 2) ?_
           clear hK K T11
           refine seq_op rfl (by kernel_rfl) (by rfl) (fun K hK => ?_)
           have m0 := (T12.cell 2 rfl 0).trans rfl
           have m1 := (T12.cell 2 rfl 1).trans rfl
           have l0 := T12.froz 2 rfl 0
           have l1 := T12.froz 2 rfl 1
           go_simp
           have T13 : Cfg w _ [⟨g16, 58, #[(.slice yA t.length yc), (.slice yB us'.length yd)]⟩, ⟨g13, 61, #[(.slice uA t.length uc), (.slice uB us'.length ud)]⟩, ⟨g11, 58, #[(.slice yA t.length yc), (.slice yB us'.length yd)]⟩, ⟨g10, 61, #[(.slice uA t.length uc), (.slice uB us'.length ud)]⟩, ⟨g9, 58, #[(.slice hA t.length hc), (.slice hB us.length hd)]⟩, ⟨g8, 74, #[.int .i64 q0, .int .i64 q1, .int .i64 q2]⟩, ⟨g6, 61, #[(.slice sA t.length sc), (.slice sB us.length sd)]⟩, ⟨g5, 58, #[(.slice zA t.length zc), (.slice zB us.length zd)]⟩] [Row.a (.slice uA t.length uc) (t.map cv), Row.c (.slice uB us'.length ud) us', Row.b (.slice yA t.length yc) t, Row.c (.slice yB us'.length yd) us', Row.b (.slice hA t.length hc) t, Row.c (.slice hB us.length hd) us, Row.a (.slice sA t.length sc) (t.map cv), Row.c (.slice sB us.length sd) us, Row.b (.slice zA t.length zc) t, Row.c (.slice zB us.length zd) us] := (T12.set 2 rfl 0 (.slice yA t.length yc) rfl).set 2 rfl 1 (.slice yB us'.length yd) rfl
           clear m0 m1 l0 l1
           refine hK _ _ (T13.take 2) ?_
           clear hK K T12
           first | (refine seq_val (v := ?_) (a' := ?_) rfl ?_ ?_ ?_ ?_; rotate_left 2; (· rfl); (· intro w0 hS; go_simp; first | done | with_reducible rfl); (· go_simp; first | done | with_reducible rfl)) | (refine seq_off (a' := ?_) rfl ?_ ?_ ?_; rotate_left 1; (· rfl); (· go_simp; first | done | with_reducible rfl))
           refine seq_nil ?_
           go_wp2_with (fail)
           go_meet
           case rel => exact ⟨t, us', uA, uB, yA, yB, uc, ud, yc, yd, rfl, K1, ⟨T13.drop 2⟩⟩
        · have g1 := Pure.limF_good HG2.out q1 q2
          have g2 := Pure.lim_f HG2.out q1 q2
          have g3 := Pure.rlim_f HG2.out q1 q2
          generalize limF t q1 q2 = RR at g1 g2 g3
          obtain ⟨t', cd⟩ := RR
          have K1 := Aside0.mk g1
          have K2 := Aside0.mk g2
          have K3 := Aside0.mk g3
          clear g1 g2 g3
          have m0 := (T7.cell 4 rfl 0).trans rfl
          have m1 := (T7.cell 4 rfl 1).trans rfl
          have m2 := (T7.cell 3 rfl 1).trans rfl
          have m3 := (T7.cell 3 rfl 2).trans rfl
          go_wp2_with (fail)
          refine (limit_ 1000 q1 q2 T7 (show Row.a (.slice sA t.length sc) (t.map cv) ∈ _ by simp) (show Row.c (.slice sB us.length sd) us ∈ _ by simp) K2.out).mono ?_
          rintro e w8 ⟨u0, u1, rfl, T8⟩
          clear T7 m0 m1 m2 m3
          obtain ⟨uA, uc, rfl⟩ := va' T8 (show Row.a u0 (t'.map cv) ∈ _ by simp)
          obtain ⟨uB, ud, rfl, _, _⟩ := Cfg.vc T8 (show Row.c u1 us ∈ _ by simp)
          have T9 := T8.alloc #[(.slice uA t'.length uc), (.slice uB us.length ud)] 61
          clear T8
          have m0 := (T9.cell 6 rfl 0).trans rfl
          have m1 := (T9.cell 6 rfl 1).trans rfl
          have m2 := (T9.cell 4 rfl 1).trans rfl
          have m3 := (T9.cell 4 rfl 2).trans rfl
          go_wp2_with (fail)
          refine (rlimit_ 1000 q1 q2 T9 (show Row.b (.slice zA t.length zc) t ∈ _ by simp) (show Row.c (.slice zB us.length zd) us ∈ _ by simp) K3.out).mono ?_
          rintro e w9 ⟨y0, y1, rfl, T10⟩
          clear T9 m0 m1 m2 m3
          generalize w8.heap.size = g13 at T10 ⊢
          obtain ⟨yA, yc, rfl, _, _⟩ := Cfg.vb T10 (show Row.b y0 t' ∈ _ by simp)
          obtain ⟨yB, yd, rfl, _, _⟩ := Cfg.vc T10 (show Row.c y1 us ∈ _ by simp)
          go_wp2_with (fail)
          have T11 := ((T10.alloc #[(.slice yA t'.length yc), (.slice yB us.length yd)] 58).keep (R' := [Row.a (.slice uA t'.length uc) (t'.map cv), Row.c (.slice uB us.length ud) us, Row.b (.slice yA t'.length yc) t', Row.c (.slice yB us.length yd) us, Row.b (.slice hA t.length hc) t, Row.c (.slice hB us.length hd) us, Row.a (.slice sA t.length sc) (t.map cv), Row.c (.slice sB us.length sd) us, Row.b (.slice zA t.length zc) t, Row.c (.slice zB us.length zd) us]) (fun r hr => by simp only [List.mem_cons, List.not_mem_nil, or_false] at hr ⊢; rcases hr with rfl | rfl | rfl | rfl | rfl | rfl | rfl | rfl | rfl | rfl <;> simp)).drew
          clear T10
          generalize w9.alloc (.cells #[(.slice yA t'.length yc), (.slice yB us.length yd)] 58) = w10 at T11 ⊢
          generalize w9.heap.size = g16 at T11 ⊢
          refine wp_region_seq (fun w' => Cfg w w' [⟨g16, 58, #[(.slice yA t'.length yc), (.slice yB us.length yd)]⟩, ⟨g13, 61, #[(.slice uA t'.length uc), (.slice uB us.length ud)]⟩] []) [5, 6] [0, 1, 2, 3, 4, 5, 6, 7] (by kernel_rfl) (by kernel_rfl) (by kernel_rfl) (by kernel_rfl) (by kernel_rfl) (fun _ _ d _ _ h => by cases d <;> exact h) ?h0 ?hseq
          case h0 => exact (T11.take 2)
          case hseq =>
           generalize World.drew w10 = w11 at T11 ⊢
           first | (refine seq_val (v := ?_) (a' := ?_) rfl ?_ ?_ ?_ ?_; rotate_left 2; (· rfl); (· intro w0 hS; have x0 := (hS.cell 1 rfl 0).trans rfl; have x1 := (hS.cell 1 rfl 1).trans rfl; go_simp; first | done | with_reducible rfl); (· go_simp; first | done | with_reducible rfl)) | (refine seq_off (a' := ?_) rfl ?_ ?_ ?_; rotate_left 1; (· rfl); (· go_simp; first | done | with_reducible rfl))
           first | (refine seq_val (v := ?_) (a' := ?_) rfl ?_ ?_ ?_ ?_; rotate_left 2; (· rfl); (· intro w0 hS; have x0 := (hS.cell 0 rfl 0).trans rfl; have x1 := (hS.cell 0 rfl 1).trans rfl; go_simp; first | done | with_reducible rfl); (· go_simp; first | done | with_reducible rfl)) | (refine seq_off (a' := ?_) rfl ?_ ?_ ?_; rotate_left 1; (· rfl); (· go_simp; first | done | with_reducible rfl))
           first | (refine seq_val (v := ?_) (a' := ?_) rfl ?_ ?_ ?_ ?_; rotate_left 2; (· rfl); (· intro w0 hS; go_simp; first | done | with_reducible rfl); (· go_simp; first | done | with_reducible rfl)) | (refine seq_off (a' := ?_) rfl ?_ ?_ ?_; rotate_left 1; (· rfl); (· go_simp; first | done | with_reducible rfl))
           first | (refine seq_val (v := ?_) (a' := ?_) rfl ?_ ?_ ?_ ?_; rotate_left 2; (· rfl); (· intro w0 hS; go_simp; first | done | with_reducible rfl); (· go_simp; first | done | with_reducible rfl)) | (refine seq_off (a' := ?_) rfl ?_ ?_ ?_; rotate_left 1; (· rfl); (· go_simp; first | done | with_reducible rfl))
           first | (refine seq_val (v := ?_) (a' := ?_) rfl ?_ ?_ ?_ ?_; rotate_left 2; (· rfl); (· intro w0 hS; go_simp; first | done | with_reducible rfl); (· go_simp; first | done | with_reducible rfl)) | (refine seq_off (a' := ?_) rfl ?_ ?_ ?_; rotate_left 1; (· rfl); (· go_simp; first | done | with_reducible rfl))
           refine seq_op rfl (by kernel_rfl) (by rfl) (fun K hK => ?_)
           have m0 := (T11.cell 3 rfl 0).trans rfl
           have m1 := (T11.cell 3 rfl 1).trans rfl
           have l0 := T11.froz 3 rfl 0
           have l1 := T11.froz 3 rfl 1
           go_simp
           have T12 : Cfg w _ [⟨g16, 58, #[(.slice yA t'.length yc), (.slice yB us.length yd)]⟩, ⟨g13, 61, #[(.slice uA t'.length uc), (.slice uB us.length ud)]⟩, ⟨g11, 58, #[.slice none 0 0, .slice none 0 0]⟩, ⟨g10, 61, #[(.slice uA t'.length uc), (.slice uB us.length ud)]⟩, ⟨g9, 58, #[(.slice hA t.length hc), (.slice hB us.length hd)]⟩, ⟨g8, 74, #[.int .i64 q0, .int .i64 q1, .int .i64 q2]⟩, ⟨g6, 61, #[(.slice sA t.length sc), (.slice sB us.length sd)]⟩, ⟨g5, 58, #[(.slice zA t.length zc), (.slice zB us.length zd)]⟩] [Row.a (.slice uA t'.length uc) (t'.map cv), Row.c (.slice uB us.length ud) us, Row.b (.slice yA t'.length yc) t', Row.c (.slice yB us.length yd) us, Row.b (.slice hA t.length hc) t, Row.c (.slice hB us.length hd) us, Row.a (.slice sA t.length sc) (t.map cv), Row.c (.slice sB us.length sd) us, Row.b (.slice zA t.length zc) t, Row.c (.slice zB us.length zd) us] := (T11.set 3 rfl 0 (.slice uA t'.length uc) rfl).set 3 rfl 1 (.slice uB us.length ud) rfl
           clear m0 m1 l0 l1
           refine hK _ _ (T12.take 2) ?_
           clear hK K T11
           refine seq_op rfl (by kernel_rfl) (by rfl) (fun K hK => ?_)
           have m0 := (T12.cell 2 rfl 0).trans rfl
           have m1 := (T12.cell 2 rfl 1).trans rfl
           have l0 := T12.froz 2 rfl 0
           have l1 := T12.froz 2 rfl 1
           go_simp
           have T13 : Cfg w _ [⟨g16, 58, #[(.slice yA t'.length yc), (.slice yB us.length yd)]⟩, ⟨g13, 61, #[(.slice uA t'.length uc), (.slice uB us.length ud)]⟩, ⟨g11, 58, #[(.slice yA t'.length yc), (.slice yB us.length yd)]⟩, ⟨g10, 61, #[(.slice uA t'.length uc), (.slice uB us.length ud)]⟩, ⟨g9, 58, #[(.slice hA t.length hc), (.slice hB us.length hd)]⟩, ⟨g8, 74, #[.int .i64 q0, .int .i64 q1, .int .i64 q2]⟩, ⟨g6, 61, #[(.slice sA t.length sc), (.slice sB us.length sd)]⟩, ⟨g5, 58, #[(.slice zA t.length zc), (.slice zB us.length zd)]⟩] [Row.a (.slice uA t'.length uc) (t'.map cv), Row.c (.slice uB us.length ud) us, Row.b (.slice yA t'.length yc) t', Row.c (.slice yB us.length yd) us, Row.b (.slice hA t.length hc) t, Row.c (.slice hB us.length hd) us, Row.a (.slice sA t.length sc) (t.map cv), Row.c (.slice sB us.length sd) us, Row.b (.slice zA t.length zc) t, Row.c (.slice zB us.length zd) us] := (T12.set 2 rfl 0 (.slice yA t'.length yc) rfl).set 2 rfl 1 (.slice yB us.length yd) rfl
           clear m0 m1 l0 l1
           refine hK _ _ (T13.take 2) ?_
           clear hK K T12
           first | (refine seq_val (v := ?_) (a' := ?_) rfl ?_ ?_ ?_ ?_; rotate_left 2; (· rfl); (· intro w0 hS; go_simp; first | done | with_reducible rfl); (· go_simp; first | done | with_reducible rfl)) | (refine seq_off (a' := ?_) rfl ?_ ?_ ?_; rotate_left 1; (· rfl); (· go_simp; first | done | with_reducible rfl))
           refine seq_nil ?_
           go_wp2_with (fail)
           go_meet
           case rel => exact ⟨t', us, uA, uB, yA, yB, uc, ud, yc, yd, rfl, K1, ⟨T13.drop 2⟩⟩
       case rest =>
        obtain ⟨t', us', uA, uB, yA, yB, uc, ud, yc, yd, rfl, HG3, HT3⟩ := hcut
        clear HT
        have HF3 := Aside0.mk (Pure.from_f t' (by have := HG3.out.few; omega) us' (by have h1 := HG3.out.inv.len; have h2 := HG3.out.few; omega) (k := 1000) (by have := HG3.out.few; omega))
        have HS3 := Aside0.mk (Pure.same_f t' us' (by have := HG3.out.few; omega))
        have HRT := Aside0.mk (Pure.good_right HG3.out)
        have T := HT3.out.drew
        clear HT3
        go_wp2_with (fail)
        refine wp_region_seq (fun w' => Cfg w w' [⟨g11, 58, #[(.slice yA t'.length yc), (.slice yB us'.length yd)]⟩, ⟨g10, 61, #[(.slice uA t'.length uc), (.slice uB us'.length ud)]⟩, ⟨g9, 58, #[(.slice hA t.length hc), (.slice hB us.length hd)]⟩, ⟨g8, 74, #[.int .i64 q0, .int .i64 q1, .int .i64 q2]⟩, ⟨g6, 61, #[(.slice sA t.length sc), (.slice sB us.length sd)]⟩, ⟨g5, 58, #[(.slice zA t.length zc), (.slice zB us.length zd)]⟩] [Row.a (.slice uA t'.length uc) (t'.map cv), Row.c (.slice uB us'.length ud) us', Row.b (.slice yA t'.length yc) t', Row.c (.slice yB us'.length yd) us', Row.b (.slice hA t.length hc) t, Row.c (.slice hB us.length hd) us, Row.a (.slice sA t.length sc) (t.map cv), Row.c (.slice sB us.length sd) us, Row.b (.slice zA t.length zc) t, Row.c (.slice zB us.length zd) us]) [4, 6, 11, 13, 18] [0, 1, 2, 3, 5, 4, 6, 7, 8, 9, 10, 12, 11, 13, 14, 15, 16, 17, 18, 19, 20] (by kernel_rfl) (by kernel_rfl) (by kernel_rfl) (by kernel_rfl) (by kernel_rfl) (fun _ _ d _ _ h => by cases d <;> exact h) ?h0 ?hseq
        case h0 => exact T
        case hseq =>
         generalize World.drew wc = wd at T ⊢
         first | (refine seq_val (v := ?_) (a' := ?_) rfl ?_ ?_ ?_ ?_; rotate_left 2; (· rfl); (· intro w0 hS; go_simp; first | done | with_reducible rfl); (· go_simp; first | done | with_reducible rfl)) | (refine seq_off (a' := ?_) rfl ?_ ?_ ?_; rotate_left 1; (· rfl); (· go_simp; first | done | with_reducible rfl))
         first | (refine seq_val (v := ?_) (a' := ?_) rfl ?_ ?_ ?_ ?_; rotate_left 2; (· rfl); (· intro w0 hS; go_simp; first | done | with_reducible rfl); (· go_simp; first | done | with_reducible rfl)) | (refine seq_off (a' := ?_) rfl ?_ ?_ ?_; rotate_left 1; (· rfl); (· go_simp; first | done | with_reducible rfl))
         first | (refine seq_val (v := ?_) (a' := ?_) rfl ?_ ?_ ?_ ?_; rotate_left 2; (· rfl); (· intro w0 hS; go_simp; first | done | with_reducible rfl); (· go_simp; first | done | with_reducible rfl)) | (refine seq_off (a' := ?_) rfl ?_ ?_ ?_; rotate_left 1; (· rfl); (· go_simp; first | done | with_reducible rfl))
         first | (refine seq_val (v := ?_) (a' := ?_) rfl ?_ ?_ ?_ ?_; rotate_left 2; (· rfl); (· intro w0 hS; have x0 := (hS.cell 1 rfl 0).trans rfl; have x1 := (hS.cell 1 rfl 1).trans rfl; go_simp; first | done | with_reducible rfl); (· go_simp; first | done | with_reducible rfl)) | (refine seq_off (a' := ?_) rfl ?_ ?_ ?_; rotate_left 1; (· rfl); (· go_simp; first | done | with_reducible rfl))
         first | (refine seq_val (v := ?_) (a' := ?_) rfl ?_ ?_ ?_ ?_; rotate_left 2; (· rfl); (· intro w0 hS; have x0 := (hS.cell 0 rfl 0).trans rfl; have x1 := (hS.cell 0 rfl 1).trans rfl; go_simp; first | done | with_reducible rfl); (· go_simp; first | done | with_reducible rfl)) | (refine seq_off (a' := ?_) rfl ?_ ?_ ?_; rotate_left 1; (· rfl); (· go_simp; first | done | with_reducible rfl))
         refine seq_op rfl (by kernel_rfl) (by rfl) (fun K hK => ?_)
         go_simp
         go_at_call 49
         refine (from_ 1000 T (show Row.a (.slice uA t'.length uc) (t'.map cv) ∈ _ by simp) (show Row.c (.slice uB us'.length ud) us' ∈ _ by simp) HF3.out).mono ?_
         rintro e u2 ⟨f0', f1', rfl, T1⟩
         refine hK _ _ (T1.keep (fun r hr => by simp only [List.mem_cons, List.not_mem_nil, or_false] at hr ⊢; rcases hr with rfl | rfl | rfl | rfl | rfl | rfl | rfl | rfl | rfl | rfl <;> simp)) ?_
         clear hK K T
         refine seq_op rfl (by kernel_rfl) (by rfl) (fun K hK => ?_)
         go_simp
         go_at_call 51
         refine (same_ 1000 T1 (show Row.b f0' t' ∈ _ by simp) (show Row.c f1' us' ∈ _ by simp) (show Row.b (.slice yA t'.length yc) t' ∈ _ by simp) (show Row.c (.slice yB us'.length yd) us' ∈ _ by simp) HS3.out).mono ?_
         rintro e u3 ⟨rfl, T2⟩
         have T3 := T2.keep (R' := [Row.a (.slice uA t'.length uc) (t'.map cv), Row.c (.slice uB us'.length ud) us', Row.b (.slice yA t'.length yc) t', Row.c (.slice yB us'.length yd) us', Row.b (.slice hA t.length hc) t, Row.c (.slice hB us.length hd) us, Row.a (.slice sA t.length sc) (t.map cv), Row.c (.slice sB us.length sd) us, Row.b (.slice zA t.length zc) t, Row.c (.slice zB us.length zd) us]) (fun r hr => by simp only [List.mem_cons, List.not_mem_nil, or_false] at hr ⊢; rcases hr with rfl | rfl | rfl | rfl | rfl | rfl | rfl | rfl | rfl | rfl <;> simp)
         refine hK _ _ T3 ?_
         clear hK K T1 T2
         first | (refine seq_val (v := ?_) (a' := ?_) rfl ?_ ?_ ?_ ?_; rotate_left 2; (· rfl); (· intro w0 hS; go_simp; first | done | with_reducible rfl); (· go_simp; first | done | with_reducible rfl)) | (refine seq_off (a' := ?_) rfl ?_ ?_ ?_; rotate_left 1; (· rfl); (· go_simp; first | done | with_reducible rfl))
         first | (refine seq_val (v := ?_) (a' := ?_) rfl ?_ ?_ ?_ ?_; rotate_left 2; (· rfl); (· intro w0 hS; go_simp; first | done | with_reducible rfl); (· go_simp; first | done | with_reducible rfl)) | (refine seq_off (a' := ?_) rfl ?_ ?_ ?_; rotate_left 1; (· rfl); (· go_simp; first | done | with_reducible rfl))
         first | (refine seq_val (v := ?_) (a' := ?_) rfl ?_ ?_ ?_ ?_; rotate_left 2; (· rfl); (· intro w0 hS; go_simp; first | done | with_reducible rfl); (· go_simp; first | done | with_reducible rfl)) | (refine seq_off (a' := ?_) rfl ?_ ?_ ?_; rotate_left 1; (· rfl); (· go_simp; first | done | with_reducible rfl))
         first | (refine seq_val (v := ?_) (a' := ?_) rfl ?_ ?_ ?_ ?_; rotate_left 2; (· rfl); (· intro w0 hS; have x0 := (hS.cell 4 rfl 0).trans rfl; have x1 := (hS.cell 4 rfl 1).trans rfl; go_simp; first | done | with_reducible rfl); (· go_simp; first | done | with_reducible rfl)) | (refine seq_off (a' := ?_) rfl ?_ ?_ ?_; rotate_left 1; (· rfl); (· go_simp; first | done | with_reducible rfl))
         first | (refine seq_val (v := ?_) (a' := ?_) rfl ?_ ?_ ?_ ?_; rotate_left 2; (· rfl); (· intro w0 hS; have x0 := (hS.cell 2 rfl 0).trans rfl; have x1 := (hS.cell 2 rfl 1).trans rfl; go_simp; first | done | with_reducible rfl); (· go_simp; first | done | with_reducible rfl)) | (refine seq_off (a' := ?_) rfl ?_ ?_ ?_; rotate_left 1; (· rfl); (· go_simp; first | done | with_reducible rfl))
         refine seq_op rfl (by kernel_rfl) (by rfl) (fun K hK => ?_)
         go_simp
         go_at_call 49
         refine (from_ 1000 T3 (show Row.a (.slice sA t.length sc) (t.map cv) ∈ _ by simp) (show Row.c (.slice sB us.length sd) us ∈ _ by simp) HFR.out).mono ?_
         rintro e u4 ⟨f2', f3', rfl, T4⟩
         refine hK _ _ (T4.keep (fun r hr => by simp only [List.mem_cons, List.not_mem_nil, or_false] at hr ⊢; rcases hr with rfl | rfl | rfl | rfl | rfl | rfl | rfl | rfl | rfl | rfl <;> simp)) ?_
         clear hK K T3
         refine seq_op rfl (by kernel_rfl) (by rfl) (fun K hK => ?_)
         go_simp
         go_at_call 51
         refine (same_ 1000 T4 (show Row.b f2' t ∈ _ by simp) (show Row.c f3' us ∈ _ by simp) (show Row.b (.slice hA t.length hc) t ∈ _ by simp) (show Row.c (.slice hB us.length hd) us ∈ _ by simp) HSM.out).mono ?_
         rintro e u5 ⟨rfl, T5⟩
         have T6 := T5.keep (R' := [Row.a (.slice uA t'.length uc) (t'.map cv), Row.c (.slice uB us'.length ud) us', Row.b (.slice yA t'.length yc) t', Row.c (.slice yB us'.length yd) us', Row.b (.slice hA t.length hc) t, Row.c (.slice hB us.length hd) us, Row.a (.slice sA t.length sc) (t.map cv), Row.c (.slice sB us.length sd) us, Row.b (.slice zA t.length zc) t, Row.c (.slice zB us.length zd) us]) (fun r hr => by simp only [List.mem_cons, List.not_mem_nil, or_false] at hr ⊢; rcases hr with rfl | rfl | rfl | rfl | rfl | rfl | rfl | rfl | rfl | rfl <;> simp)
         refine hK _ _ T6 ?_
         clear hK K T4 T5
         first | (refine seq_val (v := ?_) (a' := ?_) rfl ?_ ?_ ?_ ?_; rotate_left 2; (· rfl); (· intro w0 hS; go_simp; first | done | with_reducible rfl); (· go_simp; first | done | with_reducible rfl)) | (refine seq_off (a' := ?_) rfl ?_ ?_ ?_; rotate_left 1; (· rfl); (· go_simp; first | done | with_reducible rfl))
         first | (refine seq_val (v := ?_) (a' := ?_) rfl ?_ ?_ ?_ ?_; rotate_left 2; (· rfl); (· intro w0 hS; go_simp; first | done | with_reducible rfl); (· go_simp; first | done | with_reducible rfl)) | (refine seq_off (a' := ?_) rfl ?_ ?_ ?_; rotate_left 1; (· rfl); (· go_simp; first | done | with_reducible rfl))
         first | (refine seq_val (v := ?_) (a' := ?_) rfl ?_ ?_ ?_ ?_; rotate_left 2; (· rfl); (· intro w0 hS; go_simp; first | done | with_reducible rfl); (· go_simp; first | done | with_reducible rfl)) | (refine seq_off (a' := ?_) rfl ?_ ?_ ?_; rotate_left 1; (· rfl); (· go_simp; first | done | with_reducible rfl))
         first | (refine seq_val (v := ?_) (a' := ?_) rfl ?_ ?_ ?_ ?_; rotate_left 2; (· rfl); (· intro w0 hS; have x0 := (hS.cell 1 rfl 0).trans rfl; have x1 := (hS.cell 1 rfl 1).trans rfl; go_simp; first | done | with_reducible rfl); (· go_simp; first | done | with_reducible rfl)) | (refine seq_off (a' := ?_) rfl ?_ ?_ ?_; rotate_left 1; (· rfl); (· go_simp; first | done | with_reducible rfl))
         refine seq_op rfl (by kernel_rfl) (by rfl) (fun K hK => ?_)
         go_simp
         go_at_call 44
         refine (right_ 1000 T6 (show Row.a (.slice uA t'.length uc) (t'.map cv) ∈ _ by simp) (show Row.c (.slice uB us'.length ud) us' ∈ _ by simp) HRT.out).mono ?_
         rintro e u6 ⟨rfl, T7⟩
         refine hK _ _ T7 ?_
         clear hK K T6
         first | (refine seq_val (v := ?_) (a' := ?_) rfl ?_ ?_ ?_ ?_; rotate_left 2; (· rfl); (· intro w0 hS; go_simp; first | done | with_reducible rfl); (· go_simp; first | done | with_reducible rfl)) | (refine seq_off (a' := ?_) rfl ?_ ?_ ?_; rotate_left 1; (· rfl); (· go_simp; first | done | with_reducible rfl))
         first | (refine seq_val (v := ?_) (a' := ?_) rfl ?_ ?_ ?_ ?_; rotate_left 2; (· rfl); (· intro w0 hS; go_simp; first | done | with_reducible rfl); (· go_simp; first | done | with_reducible rfl)) | (refine seq_off (a' := ?_) rfl ?_ ?_ ?_; rotate_left 1; (· rfl); (· go_simp; first | done | with_reducible rfl))
         refine seq_nil ?_
         go_wp2_with (fail)
         have T8 := T7.drew
         clear T7
         refine wp_region_seq (fun w' => Cfg w w' [⟨g11, 58, #[(.slice yA t'.length yc), (.slice yB us'.length yd)]⟩, ⟨g10, 61, #[(.slice uA t'.length uc), (.slice uB us'.length ud)]⟩] []) [2, 3] [0, 1, 2, 3] (by kernel_rfl) (by kernel_rfl) (by kernel_rfl) (by kernel_rfl) (by kernel_rfl) (fun _ _ d _ _ h => by cases d <;> exact h) ?h0 ?hseq
         case h0 => exact (T8.take 2)
         case hseq =>
          generalize World.drew u6 = u7 at T8 ⊢
          first | (refine seq_val (v := ?_) (a' := ?_) rfl ?_ ?_ ?_ ?_; rotate_left 2; (· rfl); (· intro w0 hS; have x0 := (hS.cell 1 rfl 0).trans rfl; have x1 := (hS.cell 1 rfl 1).trans rfl; go_simp; first | done | with_reducible rfl); (· go_simp; first | done | with_reducible rfl)) | (refine seq_off (a' := ?_) rfl ?_ ?_ ?_; rotate_left 1; (· rfl); (· go_simp; first | done | with_reducible rfl))
          first | (refine seq_val (v := ?_) (a' := ?_) rfl ?_ ?_ ?_ ?_; rotate_left 2; (· rfl); (· intro w0 hS; have x0 := (hS.cell 0 rfl 0).trans rfl; have x1 := (hS.cell 0 rfl 1).trans rfl; go_simp; first | done | with_reducible rfl); (· go_simp; first | done | with_reducible rfl)) | (refine seq_off (a' := ?_) rfl ?_ ?_ ?_; rotate_left 1; (· rfl); (· go_simp; first | done | with_reducible rfl))
          refine seq_op rfl (by kernel_rfl) (by rfl) (fun K hK => ?_)
          have m0 := (T8.cell 4 rfl 0).trans rfl
          have m1 := (T8.cell 4 rfl 1).trans rfl
          have l0 := T8.froz 4 rfl 0
          have l1 := T8.froz 4 rfl 1
          go_simp
          have T9 : Cfg w _ [⟨g11, 58, #[(.slice yA t'.length yc), (.slice yB us'.length yd)]⟩, ⟨g10, 61, #[(.slice uA t'.length uc), (.slice uB us'.length ud)]⟩, ⟨g9, 58, #[(.slice hA t.length hc), (.slice hB us.length hd)]⟩, ⟨g8, 74, #[.int .i64 q0, .int .i64 q1, .int .i64 q2]⟩, ⟨g6, 61, #[(.slice uA t'.length uc), (.slice uB us'.length ud)]⟩, ⟨g5, 58, #[(.slice zA t.length zc), (.slice zB us.length zd)]⟩] [Row.a (.slice uA t'.length uc) (t'.map cv), Row.c (.slice uB us'.length ud) us', Row.b (.slice yA t'.length yc) t', Row.c (.slice yB us'.length yd) us', Row.b (.slice hA t.length hc) t, Row.c (.slice hB us.length hd) us, Row.a (.slice sA t.length sc) (t.map cv), Row.c (.slice sB us.length sd) us, Row.b (.slice zA t.length zc) t, Row.c (.slice zB us.length zd) us] := (T8.set 4 rfl 0 (.slice uA t'.length uc) rfl).set 4 rfl 1 (.slice uB us'.length ud) rfl
          clear m0 m1 l0 l1
          refine hK _ _ (T9.take 2) ?_
          clear hK K T8
          refine seq_op rfl (by kernel_rfl) (by rfl) (fun K hK => ?_)
          have m0 := (T9.cell 5 rfl 0).trans rfl
          have m1 := (T9.cell 5 rfl 1).trans rfl
          have l0 := T9.froz 5 rfl 0
          have l1 := T9.froz 5 rfl 1
          go_simp
          have T10 : Cfg w _ [⟨g11, 58, #[(.slice yA t'.length yc), (.slice yB us'.length yd)]⟩, ⟨g10, 61, #[(.slice uA t'.length uc), (.slice uB us'.length ud)]⟩, ⟨g9, 58, #[(.slice hA t.length hc), (.slice hB us.length hd)]⟩, ⟨g8, 74, #[.int .i64 q0, .int .i64 q1, .int .i64 q2]⟩, ⟨g6, 61, #[(.slice uA t'.length uc), (.slice uB us'.length ud)]⟩, ⟨g5, 58, #[(.slice yA t'.length yc), (.slice yB us'.length yd)]⟩] [Row.a (.slice uA t'.length uc) (t'.map cv), Row.c (.slice uB us'.length ud) us', Row.b (.slice yA t'.length yc) t', Row.c (.slice yB us'.length yd) us', Row.b (.slice hA t.length hc) t, Row.c (.slice hB us.length hd) us, Row.a (.slice sA t.length sc) (t.map cv), Row.c (.slice sB us.length sd) us, Row.b (.slice zA t.length zc) t, Row.c (.slice zB us.length zd) us] := (T9.set 5 rfl 0 (.slice yA t'.length yc) rfl).set 5 rfl 1 (.slice yB us'.length yd) rfl
          clear m0 m1 l0 l1
          refine hK _ _ (T10.take 2) ?_
          clear hK K T9
          refine seq_nil ?_
          have e9 : wrap64 (i + 1) = i + 1 := by have := HI.out; unfold wrap64; omega
          go_wp2_with (fail)
          go_roundg ((l1.length : Int) - i).toNat
          case measure => have := HI.out; omega
          case rel => exact ⟨i + 1, t', us', uA, uB, yA, yB, uc, ud, yc, yd, rfl, ⟨by have := HI.out; omega⟩, HG3, ⟨(T10.drop 4).keep (R' := [Row.a (.slice uA t'.length uc) (t'.map cv), Row.c (.slice uB us'.length ud) us', Row.b (.slice yA t'.length yc) t', Row.c (.slice yB us'.length yd) us']) (fun r hr => by simp only [List.mem_cons, List.not_mem_nil, or_false] at hr ⊢; rcases hr with rfl | rfl | rfl | rfl <;> simp)⟩⟩
     · have c2b := decide_eq_false c2
       go_wp2_with (fail)
       go_ret
       exact ⟨rfl, HT.out.bel⟩
   · have c1b := decide_eq_false k1
     go_wp2_with (fail)
     go_ret
     exact ⟨rfl, HT.out.bel⟩
end Go.Proofs.Ytnodcekkbbmfnaa.CrA
