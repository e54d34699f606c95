/- The law CreditBack walked, by hand. -/
import Derived.Test.YtnodcekkbbmfnaaCrK
import Derived.Test.YtnodcekkbbmfnaaCrQ
import Derived.Deep.CutBlock
import Derived.Deep.DeepCutAuto
namespace Go.Proofs.Ytnodcekkbbmfnaa.CrB
open Go.Proofs.Ytnodcekkbbmfnaa
open Go.RowKit Go.Proofs.Ytnodcekkbbmfnaa.CrK Go.Proofs.Ytnodcekkbbmfnaa.Par Go.Proofs.Ytnodcekkbbmfnaa.Seq Go.Proofs.Ytnodcekkbbmfnaa.QCrB Go.Proofs.YtnodcekkbbmfnaaW.PrintWords Go.Proofs.YtnodcekkbbmfnaaW.PrintLast Go.Proofs.YtnodcekkbbmfnaaW.PrintMore
open Go.Proofs.Ytnodcekkbbmfnaa.Pure (cv resF relF limF layp clm cap low)
set_option linter.unusedVariables false
set_option linter.unusedSimpArgs false
attribute [local go_sem] max2_int min2_int max_two min_two
theorem info2 : (Try.prog.info? 2).map (fun i => (i.zero, i.size, i.bytes)) = some (some (.int .i64 0), 1, 8) := by kernel_rfl
def Stop (p : Prop) : Prop := p
theorem stop_ {p : Prop} (h : Stop p) : p := h
theorem sz (w : World) (o : Obj) : (w.alloc o).heap.size = w.heap.size + 1 := by simp
theorem kin (q : Int) (n : Nat) (h0 : 0 < n) (h1 : n ≤ 10) : 0 ≤ wrap64 (Int.tmod (IntKind.u64.wrap q) n) ∧ wrap64 (Int.tmod (IntKind.u64.wrap q) n) < n := by
 have e : IntKind.u64.wrap q = q % 18446744073709551616 := rfl
 have hm0 : 0 ≤ Int.tmod (IntKind.u64.wrap q) n := by rw [e, Int.tmod_eq_emod_of_nonneg (by omega)]; exact Int.emod_nonneg _ (by omega)
 have hm1 : Int.tmod (IntKind.u64.wrap q) n < n := by rw [e, Int.tmod_eq_emod_of_nonneg (by omega)]; exact Int.emod_lt_of_pos _ (by omega)
 rw [Pure.w64_in (by omega) (by omega)]
 exact ⟨hm0, hm1⟩
theorem lin (q c : Int) (h0 : 0 ≤ c) (h1 : c ≤ 4611686018427387904) : 0 ≤ wrap64 (Int.tmod (IntKind.u64.wrap q) (c + 1)) ∧ wrap64 (Int.tmod (IntKind.u64.wrap q) (c + 1)) ≤ c := by
 have e : IntKind.u64.wrap q = q % 18446744073709551616 := rfl
 have hm0 : 0 ≤ Int.tmod (IntKind.u64.wrap q) (c + 1) := by rw [e, Int.tmod_eq_emod_of_nonneg (by omega)]; exact Int.emod_nonneg _ (by omega)
 have hm1 : Int.tmod (IntKind.u64.wrap q) (c + 1) < c + 1 := by rw [e, Int.tmod_eq_emod_of_nonneg (by omega)]; exact Int.emod_lt_of_pos _ (by omega)
 rw [Pure.w64_in (by omega) (by omega)]
 exact ⟨hm0, by omega⟩
theorem va2 {w wr : World} {B : List Own} {hv : Value} {had : List Int} {R : List Row} {v0 : Value} {t : List S68} {n : Nat} (h : Cfg w wr B hv had R) (hm : Row.a v0 (t.map cv) ∈ R) (hn : t.length = n) : ∃ A c, v0 = .slice A n c := by
 obtain ⟨A, c, e, _, _⟩ := h.va hm
 rw [List.length_map, hn] at e
 exact ⟨A, c, e⟩
theorem vc3 {w wr : World} {B : List Own} {hv : Value} {had : List Int} {R : List Row} {v0 : Value} {us : List Int} {n : Nat} (h : Cfg w wr B hv had R) (hm : Row.c v0 us ∈ R) (hn : us.length = n) : ∃ A c, v0 = .slice A n c := by
 obtain ⟨A, c, e, _, _⟩ := h.vc hm
 rw [hn] at e
 exact ⟨A, c, e⟩
theorem sum_drop (l : List Int) (i : Int) (h0 : 0 ≤ i) (h1 : i < l.length) (hp : ∀ x ∈ l, 0 ≤ x) : 0 ≤ rd l i ∧ rd l i ≤ (l.drop i.toNat).sum ∧ (l.drop i.toNat).sum - rd l i = (l.drop (i + 1).toNat).sum := by
 have hr : rd l i = l[i.toNat]'(by omega) := by have h9 := Pure.rd_nat l i.toNat (by omega); rwa [show ((i.toNat : Nat) : Int) = i by omega] at h9
 have hd : l.drop i.toNat = l[i.toNat]'(by omega) :: l.drop (i + 1).toNat := by rw [show (i + 1).toNat = i.toNat + 1 by omega]; exact List.drop_eq_getElem_cons (by omega)
 have hs : ∀ l2 : List Int, (∀ x ∈ l2, 0 ≤ x) → 0 ≤ l2.sum := fun l2 => by
  induction l2 with
  | nil => intro _; simp
  | cons a l2 ih => intro h; have h2 := ih (fun x hx => h x (by simp [hx])); have h3 := h a (by simp); rw [List.sum_cons]; omega
 have h2 := hs (l.drop (i + 1).toNat) (fun x hx => hp x (List.mem_of_mem_drop hx))
 have h3 := hp _ (List.getElem_mem (show i.toNat < l.length by omega))
 rw [hr, hd, List.sum_cons]
 exact ⟨h3, by omega, by omega⟩
theorem low_rel {t : List S68} {k most s : Int} (h0 : 0 ≤ k) (h1 : k < t.length) (hg : Pure.Good (low t k most) (layp t (clm t 3 k).1 s)) (amt : Int) (ha : 0 ≤ amt) (hs : amt ≤ s) : relF (low t k most) (layp t (clm t 3 k).1 s) k amt = (layp t (clm t 3 k).1 (s - amt), true) := by
 have e : ∀ s, layp (low t k most) (clm (low t k most) 3 k).1 s = layp t (clm t 3 k).1 s := fun s => by rw [Pure.low_clm h0 h1, Pure.low_layp h0 h1]
 have := Pure.back_rel (t := low t k most) (s := s) h0 (by rw [Pure.low_len h0 h1]; exact h1) (by rw [e]; exact hg) amt ha hs
 rwa [e, e] at this
theorem va' {w wr : World} {B : List Own} {hv : Value} {had : List Int} {R : List Row} {v0 : Value} {t : List S68} (h : Cfg w wr B hv had R) (hm : Row.a v0 (t.map cv) ∈ R) : ∃ A c, v0 = .slice A t.length c := by
 obtain ⟨A, c, e, _, _⟩ := h.va hm
 rw [List.length_map] at e
 exact ⟨A, c, e⟩
theorem vc' {w wr : World} {B : List Own} {hv : Value} {had : List Int} {R : List Row} {v0 : Value} {t : List S68} {p : List Int} {s : Int} (h : Cfg w wr B hv had R) (hm : Row.c v0 (layp t p s) ∈ R) : ∃ A c, v0 = .slice A t.length c := by
 obtain ⟨A, c, e, _, _⟩ := h.vc hm
 rw [Pure.layp_len] at e
 exact ⟨A, c, e⟩
set_option maxHeartbeats 16000000 in
set_option maxRecDepth 100000 in
theorem back (A0 : Option Addr) (c0 : Nat) (l0 : List S68) (lf cp : Int) (A2 : Option Addr) (c2 : Nat) (l2 : List Int) (w : World) (hr0 : Kd.C k68 w A0 l0.length l0) (hc0 : l0.length ≤ c0) (hr2 : Kd.C (Kd.int .i64) w A2 l2.length l2) (hc2 : l2.length ≤ c2) (hi2 : ∀ o ∈ l2, o ≤ 9223372036854775807) :
  Calls Try.prog 14 #[.slice A0 l0.length c0, .agg #[.int .i64 lf, .int .i64 cp], .slice A2 l2.length c2] w fun e w' => e = .returned (.bool true) ∧ Below w.heap.size w w' := by
 obtain ⟨t, hfix, hval, hpos, h10⟩ := Pure.fix_f l0 (k := 1000) (by omega)
 have hto := Pure.to_f t (by omega) (k := 1000) (by omega)
 have hbg := Pure.begin_f t (by omega)
 have GG : Pure.Good t (List.replicate t.length 0) := ⟨hval, hpos, h10, Pure.inv_zero t⟩
 have HFX := Aside0.mk hfix
 have HTO := Aside0.mk hto
 have HR2 := Aside0.mk hr2
 have HI9 := Aside0.mk hi2
 have HPS := Aside0.mk hpos
 have H10 := Aside0.mk h10
 have hkk := kin lf t.length (by omega) (by omega)
 obtain ⟨kk, hK⟩ : ∃ kk, wrap64 (Int.tmod (IntKind.u64.wrap lf) t.length) = kk := ⟨_, rfl⟩
 rw [hK] at hkk
 have hbg2 : credit_Begin.f (t.map cv) = some (t.map cv, layp t (clm t 3 kk).1 0) := by rw [Pure.layp_zero]; exact hbg
 have GG2 : Pure.Good t (layp t (clm t 3 kk).1 0) := by rw [Pure.layp_zero]; exact GG
 have HKK := Aside0.mk hkk
 have HBG := Aside0.mk hbg2
 have HG := Aside0.mk GG2
 clear hbg hbg2 GG GG2 hkk
 have huw : IntKind.u64.wrap (t.length : Int) = (t.length : Int) := Pure.u64_wrap_in (by omega) (by omega)
 have hnz : ((t.length : Int) == 0) = false := beq_eq_false_iff_ne.mpr (by omega)
 have hne : ¬ t = [] := fun e => by rw [e] at hpos; exact absurd hpos (by simp)
 have hnz2 : (t.length == 0) = false := beq_eq_false_iff_ne.mpr (by omega)
 clear hfix hto hr2 hval hpos hi2
 go_enter Try.func14, Try.ntmps14
 go_wp2_with (fail)
 have T : Cfg w (World.drew (w.alloc (.cells #[.int .i64 lf, .int .i64 cp] 86))) [⟨w.heap.size, 86, #[.int .i64 lf, .int .i64 cp]⟩] (.slice none 0 0) [] [] := ((Cfg.init w).alloc _ _).drew
 refine wp_region_seq (fun w' => Cfg w w' [⟨w.heap.size, 86, #[.int .i64 lf, .int .i64 cp]⟩] (.slice none 0 0) [] []) [] [0, 1, 2, 3, 4, 5] (by kernel_rfl) (by kernel_rfl) (by kernel_rfl) (by kernel_rfl) (by kernel_rfl) (fun _ _ d _ _ h => by cases d <;> exact h) ?h0 ?hseq
 case h0 => exact T
 case hseq =>
  first | (refine seq_val (v := ?_) (a' := ?_) rfl ?_ ?_ ?_ ?_; rotate_left 2; (· rfl); (· intro w0 hS; go_simp; first | done | with_reducible rfl); (· go_simp; first | done | with_reducible rfl)) | (refine seq_off (a' := ?_) rfl ?_ ?_ ?_; rotate_left 1; (· rfl); (· go_simp; first | done | with_reducible rfl))
  first | (refine seq_val (v := ?_) (a' := ?_) rfl ?_ ?_ ?_ ?_; rotate_left 2; (· rfl); (· intro w0 hS; have x0 := (hS.cell 0 rfl 0).trans rfl; have x1 := (hS.cell 0 rfl 1).trans rfl; go_simp; first | done | with_reducible rfl); (· go_simp; first | done | with_reducible rfl)) | (refine seq_off (a' := ?_) rfl ?_ ?_ ?_; rotate_left 1; (· rfl); (· go_simp; first | done | with_reducible rfl))
  first | (refine seq_val (v := ?_) (a' := ?_) rfl ?_ ?_ ?_ ?_; rotate_left 2; (· rfl); (· intro w0 hS; go_simp; first | done | with_reducible rfl); (· go_simp; first | done | with_reducible rfl)) | (refine seq_off (a' := ?_) rfl ?_ ?_ ?_; rotate_left 1; (· rfl); (· go_simp; first | done | with_reducible rfl))
  first | (refine seq_val (v := ?_) (a' := ?_) rfl ?_ ?_ ?_ ?_; rotate_left 2; (· rfl); (· intro w0 hS; have x0 := (hS.cell 0 rfl 0).trans rfl; have x1 := (hS.cell 0 rfl 1).trans rfl; go_simp; first | done | with_reducible rfl); (· go_simp; first | done | with_reducible rfl)) | (refine seq_off (a' := ?_) rfl ?_ ?_ ?_; rotate_left 1; (· rfl); (· go_simp; first | done | with_reducible rfl))
  first | (refine seq_val (v := ?_) (a' := ?_) rfl ?_ ?_ ?_ ?_; rotate_left 2; (· rfl); (· intro w0 hS; go_simp; first | done | with_reducible rfl); (· go_simp; first | done | with_reducible rfl)) | (refine seq_off (a' := ?_) rfl ?_ ?_ ?_; rotate_left 1; (· rfl); (· go_simp; first | done | with_reducible rfl))
  first | (refine seq_val (v := ?_) (a' := ?_) rfl ?_ ?_ ?_ ?_; rotate_left 2; (· rfl); (· intro w0 hS; go_simp; first | done | with_reducible rfl); (· go_simp; first | done | with_reducible rfl)) | (refine seq_off (a' := ?_) rfl ?_ ?_ ?_; rotate_left 1; (· rfl); (· go_simp; first | done | with_reducible rfl))
  refine seq_nil ?_
  have hr0 := Kd.C_below hr0 T.bel
  go_wp2_with (fail)
  refine (fix_ 1000 T hr0 hc0 HFX.out).mono ?_
  rintro e w1 ⟨v, rfl, T1⟩
  clear T hr0
  obtain ⟨nA, nc, rfl, _, _⟩ := T1.vb (show Row.b v t ∈ _ by simp)
  go_wp2_with (fail)
  refine (to_ 1000 T1 (show Row.b (.slice nA t.length nc) t ∈ _ by simp) HTO.out).mono ?_
  rintro e w2 ⟨v2, rfl, T2⟩
  clear T1
  obtain ⟨vA, vc, rfl⟩ := va' T2 (show Row.a v2 (t.map cv) ∈ _ by simp)
  go_wp2_with (fail)
  refine (begin_ T2 (show Row.a (.slice vA t.length vc) (t.map cv) ∈ _ by simp) HBG.out).mono ?_
  rintro e w3 ⟨s0, s1, rfl, T3⟩
  clear T2
  obtain ⟨sA, sc, rfl⟩ := va' T3 (show Row.a s0 (t.map cv) ∈ _ by simp)
  obtain ⟨sB, sd, rfl⟩ := vc' T3 (show Row.c s1 (layp t (clm t 3 kk).1 0) ∈ _ by simp)
  have T4 := T3.alloc #[(.slice sA t.length sc), (.slice sB t.length sd)] 61
  have y0 := (T4.cell 0 rfl 0).trans rfl
  have y1 := (T4.cell 0 rfl 1).trans rfl
  clear T3
  go_wp2_with (fail)
  rw [hK]
  clear hK y0 y1 huw hnz hnz2 hne
  have HFR := Aside0.mk (Pure.from_f t (by have := H10.out; omega) (layp t (clm t 3 kk).1 0) (by rw [Pure.layp_len]; have := H10.out; omega) (k := 1000) (by have := H10.out; omega))
  refine (from_ 1000 T4 (show Row.a (.slice sA t.length sc) (t.map cv) ∈ _ by simp) (show Row.c (.slice sB t.length sd) (layp t (clm t 3 kk).1 0) ∈ _ by simp) HFR.out).mono ?_
  rintro e w5 ⟨q0, q1, rfl, T5⟩
  clear T4
  obtain ⟨qA, qc, rfl, _, _⟩ := T5.vb (show Row.b q0 t ∈ _ by simp)
  obtain ⟨qB, qd, rfl⟩ := vc' T5 (show Row.c q1 (layp t (clm t 3 kk).1 0) ∈ _ by simp)
  generalize w.heap.size = g4 at T5 ⊢
  generalize w3.heap.size = g10 at T5 ⊢
  have T6 := (T5.alloc #[(.slice qA t.length qc), (.slice qB t.length qd)] 58).keep (R' := [Row.a (.slice sA t.length sc) (t.map cv), Row.c (.slice sB t.length sd) (layp t (clm t 3 kk).1 0), Row.b (.slice nA t.length nc) t, Row.b (.slice qA t.length qc) t, Row.c (.slice qB t.length qd) (layp t (clm t 3 kk).1 0)]) (fun r hr => by simp only [List.mem_cons, List.not_mem_nil, or_false] at hr ⊢; rcases hr with rfl | rfl | rfl | rfl | rfl <;> simp)
  clear T5
  go_upto_block 0 with (fail)
  generalize w5.alloc (.cells #[(.slice qA t.length qc), (.slice qB t.length qd)] 58) = w6 at T6 ⊢
  generalize w5.heap.size = g12 at T6 ⊢
  have HT := Aside0.mk T6
  clear T6
  go_cut [13] (fun v13 wc => ∃ (had : List Int) (sA sB : Option Addr) (sc sd : Nat), Aside0 (had.length ≤ 20 ∧ (∀ x ∈ had, 0 ≤ x)) ∧ Aside0 (Pure.Good t (layp t (clm t 3 kk).1 had.sum)) ∧ Aside0 (Cfg w wc [⟨g12, 58, #[(.slice qA t.length qc), (.slice qB t.length qd)]⟩, ⟨g10, 61, #[(.slice sA t.length sc), (.slice sB t.length sd)]⟩, ⟨g4, 86, #[.int .i64 lf, .int .i64 cp]⟩] v13 had [Row.a (.slice sA t.length sc) (t.map cv), Row.c (.slice sB t.length sd) (layp t (clm t 3 kk).1 had.sum), Row.b (.slice nA t.length nc) t, Row.b (.slice qA t.length qc) t, Row.c (.slice qB t.length qd) (layp t (clm t 3 kk).1 0)]))
  case first =>
   have T6 := HT.out
   clear HT
   go_wp2_with (fail)
   go_loopg [13, 14] (l2.length + 1) (fun kq v13 v14 w' => ∃ (i : Int) (had : List Int) (sA sB : Option Addr) (sc sd : Nat), v14 = .int .i64 i ∧ Aside0 ((l2.length : Int) + 1 ≤ kq + i ∧ 0 ≤ i ∧ i ≤ l2.length ∧ (had.length : Int) ≤ i ∧ i ≤ 20 ∧ (∀ x ∈ had, 0 ≤ x)) ∧ Aside0 (Pure.Good t (layp t (clm t 3 kk).1 had.sum)) ∧ Aside0 (Cfg w w' [⟨g12, 58, #[(.slice qA t.length qc), (.slice qB t.length qd)]⟩, ⟨g10, 61, #[(.slice sA t.length sc), (.slice sB t.length sd)]⟩, ⟨g4, 86, #[.int .i64 lf, .int .i64 cp]⟩] v13 had [Row.a (.slice sA t.length sc) (t.map cv), Row.c (.slice sB t.length sd) (layp t (clm t 3 kk).1 had.sum), Row.b (.slice nA t.length nc) t, Row.b (.slice qA t.length qc) t, Row.c (.slice qB t.length qd) (layp t (clm t 3 kk).1 0)]))
   case atStart => exact ⟨0, [], sA, sB, sc, sd, rfl, ⟨by omega, by omega, by omega, by simp, by omega, fun x hx => by cases hx⟩, HG, ⟨T6⟩⟩
   case round =>
    obtain ⟨i, had, sA, sB, sc, sd, rfl, HI, HG2, HT⟩ := hrel
    clear T6
    have hi := HI.out
    by_cases k1 : i < l2.length
    · have c1b := decide_eq_true k1
      by_cases k2 : i < 20
      · have c2b := decide_eq_true k2
        have p0 := eq_true hi.2.1
        have p1 := eq_true k1
        have e9 : wrap64 (i + 1) = i + 1 := by unfold wrap64; omega
        generalize ham : rd l2 i = am
        have hm2 : am ≤ 9223372036854775807 := by rw [← ham]; exact HI9.out _ (by have h9 := Pure.rd_mem l2 i.toNat (by omega); rwa [show ((i.toNat : Nat) : Int) = i by omega] at h9)
        have HAM := Aside0.mk ham
        have HM2 := Aside0.mk hm2
        clear ham hm2
        have hyes := fun hc => Pure.back_yes (t := t) (s := had.sum) HKK.out.1 HKK.out.2 HG2.out am hc
        have hno := fun hc => Pure.back_no (t := t) (s := had.sum) HKK.out.1 HKK.out.2 HG2.out am hc
        have hrf := Pure.res_f t (by have := H10.out; omega) HG2.out.cap _ HG2.out.inv kk am HM2.out (k := 1000) (by omega)
        have hgd := Pure.resF_good HG2.out kk am
        generalize resF t (layp t (clm t 3 kk).1 had.sum) kk am = RR at hyes hno hrf hgd
        obtain ⟨us', cd, nd⟩ := RR
        simp only at hyes hno
        have T := HT.out
        clear HT
        by_cases hc : cd = 0
        · obtain ⟨ha0, he, hx⟩ := hyes hc
          simp only [Prod.mk.injEq] at he
          obtain ⟨rfl, rfl, rfl⟩ := he
          have HRF := Aside0.mk hrf
          have HGD := Aside0.mk hgd
          have HA0 := Aside0.mk ha0
          clear hyes hno hrf hgd ha0 hx hc
          obtain ⟨a1, e1, x9⟩ := Kd.at_int (Kd.C_below HR2.out T.bel) i HI.out.2.1 k1
          cases e1
          rw [HAM.out] at x9
          go_upto_region 10 with (fail)
          clear x9
          have HT := Aside0.mk T
          clear T
          go_cut [15, 16, 17] (fun v15 v16 v17 wc => ∃ (gx : Nat) (uA uB : Option Addr) (uc ud : Nat), v15 = .pointer (some ⟨gx, 0, none⟩) ∧ v16 = .int .i64 0 ∧ v17 = .int .i64 (-1) ∧ Aside0 (Cfg w wc (⟨gx, 61, #[(.slice uA t.length uc), (.slice uB t.length ud)]⟩ :: [⟨g12, 58, #[(.slice qA t.length qc), (.slice qB t.length qd)]⟩, ⟨g10, 61, #[(.slice sA t.length sc), (.slice sB t.length sd)]⟩, ⟨g4, 86, #[.int .i64 lf, .int .i64 cp]⟩]) u13 had [Row.a (.slice uA t.length uc) (t.map cv), Row.c (.slice uB t.length ud) (layp t (clm t 3 kk).1 (had.sum + am)), Row.a (.slice sA t.length sc) (t.map cv), Row.c (.slice sB t.length sd) (layp t (clm t 3 kk).1 had.sum), Row.b (.slice nA t.length nc) t, Row.b (.slice qA t.length qc) t, Row.c (.slice qB t.length qd) (layp t (clm t 3 kk).1 0)]))
          case first =>
           have T := HT.out
           clear HT
           have T0 := T.drew
           clear T
           refine wp_region_par (fun w' => Cfg w w' [⟨g12, 58, #[(.slice qA t.length qc), (.slice qB t.length qd)]⟩, ⟨g10, 61, #[(.slice sA t.length sc), (.slice sB t.length sd)]⟩, ⟨g4, 86, #[.int .i64 lf, .int .i64 cp]⟩] u13 had []) [6, 11, 12] [0, 1, 2, 3, 4, 5, 6, 7, 8, 9, 10, 11, 12, 13, 14] (by kernel_rfl) (by kernel_rfl) (by kernel_rfl) (by kernel_rfl) (by kernel_rfl) (fun _ _ d _ _ h => by cases d <;> exact h) ?h0 ?hseq
           case h0 => exact T0.keep (fun r hr => by cases hr)
           case hseq =>
            generalize World.drew wr = wz at T0 ⊢
            (refine par_val (v := ?_) (a' := ?_) rfl ?_ ?_ ?_ ?_; rotate_left 2; (· rfl); (· intro w0 hS; have x0 := (hS.cell 1 rfl 0).trans rfl; have x1 := (hS.cell 1 rfl 1).trans rfl; go_simp; first | done | with_reducible rfl); (· go_simp; first | done | with_reducible rfl))
            (refine par_val (v := ?_) (a' := ?_) rfl ?_ ?_ ?_ ?_; rotate_left 2; (· rfl); (· intro w0 hS; go_simp; first | done | with_reducible rfl); (· go_simp; first | done | with_reducible rfl))
            (refine par_val (v := ?_) (a' := ?_) rfl ?_ ?_ ?_ ?_; rotate_left 2; (· rfl); (· intro w0 hS; go_simp; first | done | with_reducible rfl); (· go_simp; first | done | with_reducible rfl))
            (refine par_val (v := ?_) (a' := ?_) rfl ?_ ?_ ?_ ?_; rotate_left 2; (· rfl); (· intro w0 hS; go_simp; first | done | with_reducible rfl); (· go_simp; first | done | with_reducible rfl))
            (refine par_val (v := ?_) (a' := ?_) rfl ?_ ?_ ?_ ?_; rotate_left 2; (· rfl); (· intro w0 hS; go_simp; first | done | with_reducible rfl); (· go_simp; first | done | with_reducible rfl))
            (refine par_val (v := ?_) (a' := ?_) rfl ?_ ?_ ?_ ?_; rotate_left 2; (· rfl); (· intro w0 hS; obtain ⟨ad, e, x⟩ := Kd.at_int (Kd.C_below HR2.out hS.bel) i HI.out.2.1 k1; cases e; rw [HAM.out] at x; go_simp; first | done | with_reducible rfl); (· go_simp; first | done | with_reducible rfl))
            refine par_each [6, 11] (by kernel_rfl) (by kernel_rfl) ?_
            refine each_op (l' := [7, 8, 9, 10, 11, 12, 13, 14]) rfl (by rfl) (by kernel_rfl) (fun K hK => ?_) ?_
            · go_simp
              go_at_call 48
              refine (reserve_ 1000 kk am T0 (show Row.a (.slice sA t.length sc) (t.map cv) ∈ _ by simp) (show Row.c (.slice sB t.length sd) (layp t (clm t 3 kk).1 had.sum) ∈ _ by simp) HRF.out).mono ?_
              rintro e wk ⟨u0, u1, rfl, TK⟩
              clear T0
              obtain ⟨uA, uc, rfl⟩ := va' TK (show Row.a u0 (t.map cv) ∈ _ by simp)
              obtain ⟨uB, ud, rfl⟩ := vc' TK (show Row.c u1 (layp t (clm t 3 kk).1 (had.sum + am)) ∈ _ by simp)
              refine hK _ _ ((TK).keep (fun r hr => by cases hr)) ?_
              clear hK K
              (refine par_val (v := ?_) (a' := ?_) rfl ?_ ?_ ?_ ?_; rotate_left 2; (· rfl); (· intro w0 hS; go_simp; first | done | with_reducible rfl); (· go_simp; first | done | with_reducible rfl))
              (refine par_val (v := ?_) (a' := ?_) rfl ?_ ?_ ?_ ?_; rotate_left 2; (· rfl); (· intro w0 hS; go_simp; first | done | with_reducible rfl); (· go_simp; first | done | with_reducible rfl))
              (refine par_val (v := ?_) (a' := ?_) rfl ?_ ?_ ?_ ?_; rotate_left 2; (· rfl); (· intro w0 hS; go_simp; first | done | with_reducible rfl); (· go_simp; first | done | with_reducible rfl))
              (refine par_val (v := ?_) (a' := ?_) rfl ?_ ?_ ?_ ?_; rotate_left 2; (· rfl); (· intro w0 hS; go_simp; first | done | with_reducible rfl); (· go_simp; first | done | with_reducible rfl))
              refine par_each [11] (by kernel_rfl) (by kernel_rfl) ?_
              refine each_op (l' := [12, 13, 14]) rfl (by rfl) (by kernel_rfl) (fun K hK => ?_) ?_
              · go_simp
                have TA := TK.alloc #[.slice none 0 0, .slice none 0 0] 61
                refine hK _ _ ((TA.drop 1).keep (fun r hr => by cases hr)) ?_
                clear hK K TK
                generalize wk.alloc (.cells #[.slice none 0 0, .slice none 0 0] 61) = wa at TA ⊢
                generalize wk.heap.size = gx at TA ⊢
                refine par_each [12] (by kernel_rfl) (by kernel_rfl) ?_
                refine each_op (l' := [13, 14]) rfl (by rfl) (by kernel_rfl) (fun K hK => ?_) ?_
                · have m0 := (TA.cell 0 rfl 0).trans rfl
                  have l0 := TA.froz 0 rfl 0
                  have m1 := (TA.cell 0 rfl 1).trans rfl
                  have l1 := TA.froz 0 rfl 1
                  go_simp
                  have TS : Cfg w _ (⟨gx, 61, #[(.slice uA t.length uc), (.slice uB t.length ud)]⟩ :: [⟨g12, 58, #[(.slice qA t.length qc), (.slice qB t.length qd)]⟩, ⟨g10, 61, #[(.slice sA t.length sc), (.slice sB t.length sd)]⟩, ⟨g4, 86, #[.int .i64 lf, .int .i64 cp]⟩]) u13 had _ := (TA.set 0 rfl 0 (.slice uA t.length uc) rfl).set 0 rfl 1 (.slice uB t.length ud) rfl
                  clear m0 m1 l0 l1
                  refine hK _ _ ((TS.drop 1).keep (fun r hr => by cases hr)) ?_
                  clear hK K TA
                  (refine par_val (v := ?_) (a' := ?_) rfl ?_ ?_ ?_ ?_; rotate_left 2; (· rfl); (· intro w0 hS; go_simp; first | done | with_reducible rfl); (· go_simp; first | done | with_reducible rfl))
                  (refine par_val (v := ?_) (a' := ?_) rfl ?_ ?_ ?_ ?_; rotate_left 2; (· rfl); (· intro w0 hS; go_simp; first | done | with_reducible rfl); (· go_simp; first | done | with_reducible rfl))
                  refine par_nil ?_
                  go_wp2_with (fail)
                  go_meet
                  case rel => exact ⟨gx, uA, uB, uc, ud, rfl, rfl, rfl, ⟨TS.keep (R' := [Row.a (.slice uA t.length uc) (t.map cv), Row.c (.slice uB t.length ud) (layp t (clm t 3 kk).1 (had.sum + am)), Row.a (.slice sA t.length sc) (t.map cv), Row.c (.slice sB t.length sd) (layp t (clm t 3 kk).1 had.sum), Row.b (.slice nA t.length nc) t, Row.b (.slice qA t.length qc) t, Row.c (.slice qB t.length qd) (layp t (clm t 3 kk).1 0)]) (fun r hr => hr)⟩⟩
                exact each_nil
              exact each_nil
            refine each_op (l' := [6, 7, 8, 9, 10, 12, 13, 14]) rfl (by rfl) (by kernel_rfl) (fun K hK => ?_) ?_
            · go_simp
              have TA := T0.alloc #[.slice none 0 0, .slice none 0 0] 61
              refine hK _ _ ((TA.drop 1).keep (fun r hr => by cases hr)) ?_
              clear hK K T0
              generalize wz.alloc (.cells #[.slice none 0 0, .slice none 0 0] 61) = wa at TA ⊢
              generalize wz.heap.size = gx at TA ⊢
              refine par_each [6] (by kernel_rfl) (by kernel_rfl) ?_
              refine each_op (l' := [7, 8, 9, 10, 12, 13, 14]) rfl (by rfl) (by kernel_rfl) (fun K hK => ?_) ?_
              · go_simp
                go_at_call 48
                refine (reserve_ 1000 kk am TA (show Row.a (.slice sA t.length sc) (t.map cv) ∈ _ by simp) (show Row.c (.slice sB t.length sd) (layp t (clm t 3 kk).1 had.sum) ∈ _ by simp) HRF.out).mono ?_
                rintro e wk ⟨u0, u1, rfl, TK⟩
                clear TA
                obtain ⟨uA, uc, rfl⟩ := va' TK (show Row.a u0 (t.map cv) ∈ _ by simp)
                obtain ⟨uB, ud, rfl⟩ := vc' TK (show Row.c u1 (layp t (clm t 3 kk).1 (had.sum + am)) ∈ _ by simp)
                refine hK _ _ ((TK.drop 1).keep (fun r hr => by cases hr)) ?_
                clear hK K
                (refine par_val (v := ?_) (a' := ?_) rfl ?_ ?_ ?_ ?_; rotate_left 2; (· rfl); (· intro w0 hS; go_simp; first | done | with_reducible rfl); (· go_simp; first | done | with_reducible rfl))
                (refine par_val (v := ?_) (a' := ?_) rfl ?_ ?_ ?_ ?_; rotate_left 2; (· rfl); (· intro w0 hS; go_simp; first | done | with_reducible rfl); (· go_simp; first | done | with_reducible rfl))
                (refine par_val (v := ?_) (a' := ?_) rfl ?_ ?_ ?_ ?_; rotate_left 2; (· rfl); (· intro w0 hS; go_simp; first | done | with_reducible rfl); (· go_simp; first | done | with_reducible rfl))
                (refine par_val (v := ?_) (a' := ?_) rfl ?_ ?_ ?_ ?_; rotate_left 2; (· rfl); (· intro w0 hS; go_simp; first | done | with_reducible rfl); (· go_simp; first | done | with_reducible rfl))
                refine par_each [12] (by kernel_rfl) (by kernel_rfl) ?_
                refine each_op (l' := [13, 14]) rfl (by rfl) (by kernel_rfl) (fun K hK => ?_) ?_
                · have m0 := (TK.cell 0 rfl 0).trans rfl
                  have l0 := TK.froz 0 rfl 0
                  have m1 := (TK.cell 0 rfl 1).trans rfl
                  have l1 := TK.froz 0 rfl 1
                  go_simp
                  have TS : Cfg w _ (⟨gx, 61, #[(.slice uA t.length uc), (.slice uB t.length ud)]⟩ :: [⟨g12, 58, #[(.slice qA t.length qc), (.slice qB t.length qd)]⟩, ⟨g10, 61, #[(.slice sA t.length sc), (.slice sB t.length sd)]⟩, ⟨g4, 86, #[.int .i64 lf, .int .i64 cp]⟩]) u13 had _ := (TK.set 0 rfl 0 (.slice uA t.length uc) rfl).set 0 rfl 1 (.slice uB t.length ud) rfl
                  clear m0 m1 l0 l1
                  refine hK _ _ ((TS.drop 1).keep (fun r hr => by cases hr)) ?_
                  clear hK K TK
                  (refine par_val (v := ?_) (a' := ?_) rfl ?_ ?_ ?_ ?_; rotate_left 2; (· rfl); (· intro w0 hS; go_simp; first | done | with_reducible rfl); (· go_simp; first | done | with_reducible rfl))
                  (refine par_val (v := ?_) (a' := ?_) rfl ?_ ?_ ?_ ?_; rotate_left 2; (· rfl); (· intro w0 hS; go_simp; first | done | with_reducible rfl); (· go_simp; first | done | with_reducible rfl))
                  refine par_nil ?_
                  go_wp2_with (fail)
                  go_meet
                  case rel => exact ⟨gx, uA, uB, uc, ud, rfl, rfl, rfl, ⟨TS.keep (R' := [Row.a (.slice uA t.length uc) (t.map cv), Row.c (.slice uB t.length ud) (layp t (clm t 3 kk).1 (had.sum + am)), Row.a (.slice sA t.length sc) (t.map cv), Row.c (.slice sB t.length sd) (layp t (clm t 3 kk).1 had.sum), Row.b (.slice nA t.length nc) t, Row.b (.slice qA t.length qc) t, Row.c (.slice qB t.length qd) (layp t (clm t 3 kk).1 0)]) (fun r hr => hr)⟩⟩
                exact each_nil
              exact each_nil
            exact each_nil
          case rest =>
           obtain ⟨gx, uA, uB, uc, ud, rfl, rfl, rfl, HT2⟩ := hcut
           clear HT
           have T := HT2.out
           clear HT2
           obtain ⟨a1, e1, x9⟩ := Kd.at_int (Kd.C_below HR2.out T.bel) i HI.out.2.1 k1
           cases e1
           rw [HAM.out] at x9
           go_wp2_with (at_builtin; refine Kd.R_append (Kd.int .i64) (w0 := w) w.heap.size rfl (.tmp 97) (.tmp 102) 56 2 (.int .i64 0) 8 rfl Try.underlying56 info2 rfl (by decide) (by omega) u13 had am [.int .i64 am] (fun _ => True) (fun _ => False) rfl (by first | (go_simp; done) | (go_simp; rfl)) ?aP (fun _ hk => hk.elim) ?aF ?aO ?aB ?aS ?aL ?_; (case aP => exact rfl); (case aF => exact fun _ _ => trivial); (case aO => exact T.own); (case aB => exact T.bel); (case aS => exact T.bel.size); (case aL => have := HI.out; omega); intro v1 w2 ho hb hg hat; have T2 := T.grow ho hb hg hat; clear ho hb hg hat T; refine stop_ ?_)
           unfold Stop
           clear x9
           have n0 := (T2.cell 0 rfl 0).trans rfl
           have m0 := (T2.cell 2 rfl 0).trans rfl
           have l0 := T2.froz 2 rfl 0
           have n1 := (T2.cell 0 rfl 1).trans rfl
           have m1 := (T2.cell 2 rfl 1).trans rfl
           have l1 := T2.froz 2 rfl 1
           go_wp2_with (fail)
           have T3 : Cfg w _ [⟨gx, 61, #[(.slice uA t.length uc), (.slice uB t.length ud)]⟩, ⟨g12, 58, #[(.slice qA t.length qc), (.slice qB t.length qd)]⟩, ⟨g10, 61, #[(.slice uA t.length uc), (.slice uB t.length ud)]⟩, ⟨g4, 86, #[.int .i64 lf, .int .i64 cp]⟩] v1 (had ++ [am]) [Row.a (.slice uA t.length uc) (t.map cv), Row.c (.slice uB t.length ud) (layp t (clm t 3 kk).1 (had.sum + am)), Row.a (.slice sA t.length sc) (t.map cv), Row.c (.slice sB t.length sd) (layp t (clm t 3 kk).1 had.sum), Row.b (.slice nA t.length nc) t, Row.b (.slice qA t.length qc) t, Row.c (.slice qB t.length qd) (layp t (clm t 3 kk).1 0)] := (T2.set 2 rfl 0 (.slice uA t.length uc) rfl).set 2 rfl 1 (.slice uB t.length ud) rfl
           go_roundg ((l2.length : Int) - i).toNat
           case measure => omega
           have hs : (had ++ [am]).sum = had.sum + am := by simp
           case rel => exact ⟨i + 1, had ++ [am], uA, uB, uc, ud, rfl, ⟨by have := HI.out; rw [List.length_append, List.length_singleton]; exact ⟨by omega, by omega, by omega, by omega, by omega, fun x hx => (List.mem_append.1 hx).elim (fun h => this.2.2.2.2.2 x h) (fun h => by rw [List.mem_singleton.1 h]; exact HA0.out)⟩⟩, ⟨by rw [hs]; exact HGD.out⟩, ⟨by rw [hs]; exact (T3.drop 1).keep (R' := [Row.a (.slice uA t.length uc) (t.map cv), Row.c (.slice uB t.length ud) (layp t (clm t 3 kk).1 (had.sum + am)), Row.b (.slice nA t.length nc) t, Row.b (.slice qA t.length qc) t, Row.c (.slice qB t.length qd) (layp t (clm t 3 kk).1 0)]) (fun r hr => by simp only [List.mem_cons, List.not_mem_nil, or_false] at hr ⊢; rcases hr with rfl | rfl | rfl | rfl | rfl <;> simp)⟩⟩
        · obtain rfl := hno hc
          have hcd : (cd != 0) = true := bne_iff_ne.mpr hc
          have hcd2 : (cd == 0) = false := beq_eq_false_iff_ne.mpr hc
          have HRF := Aside0.mk hrf
          clear hyes hno hrf hgd hc
          have HFR2 := Aside0.mk (Pure.from_f t (by have := H10.out; omega) (layp t (clm t 3 kk).1 had.sum) (by rw [Pure.layp_len]; have := H10.out; omega) (k := 1000) (by have := H10.out; omega))
          have HSM2 := Aside0.mk (Pure.same_f t (layp t (clm t 3 kk).1 had.sum) (by have := H10.out; omega))
          obtain ⟨a1, e1, x9⟩ := Kd.at_int (Kd.C_below HR2.out T.bel) i HI.out.2.1 k1
          cases e1
          rw [HAM.out] at x9
          go_upto_region 10 with (fail)
          clear x9
          have HT := Aside0.mk T
          clear T
          go_cut [15, 16, 17] (fun v15 v16 v17 wc => ∃ (gx : Nat) (uA uB : Option Addr) (uc ud : Nat), v15 = .pointer (some ⟨gx, 0, none⟩) ∧ v16 = .int .i64 cd ∧ v17 = .int .i64 nd ∧ Aside0 (Cfg w wc (⟨gx, 61, #[(.slice uA t.length uc), (.slice uB t.length ud)]⟩ :: [⟨g12, 58, #[(.slice qA t.length qc), (.slice qB t.length qd)]⟩, ⟨g10, 61, #[(.slice sA t.length sc), (.slice sB t.length sd)]⟩, ⟨g4, 86, #[.int .i64 lf, .int .i64 cp]⟩]) u13 had [Row.a (.slice uA t.length uc) (t.map cv), Row.c (.slice uB t.length ud) (layp t (clm t 3 kk).1 had.sum), Row.a (.slice sA t.length sc) (t.map cv), Row.c (.slice sB t.length sd) (layp t (clm t 3 kk).1 had.sum), Row.b (.slice nA t.length nc) t, Row.b (.slice qA t.length qc) t, Row.c (.slice qB t.length qd) (layp t (clm t 3 kk).1 0)]))
          case first =>
           have T := HT.out
           clear HT
           have T0 := T.drew
           clear T
           refine wp_region_par (fun w' => Cfg w w' [⟨g12, 58, #[(.slice qA t.length qc), (.slice qB t.length qd)]⟩, ⟨g10, 61, #[(.slice sA t.length sc), (.slice sB t.length sd)]⟩, ⟨g4, 86, #[.int .i64 lf, .int .i64 cp]⟩] u13 had []) [6, 11, 12] [0, 1, 2, 3, 4, 5, 6, 7, 8, 9, 10, 11, 12, 13, 14] (by kernel_rfl) (by kernel_rfl) (by kernel_rfl) (by kernel_rfl) (by kernel_rfl) (fun _ _ d _ _ h => by cases d <;> exact h) ?h0 ?hseq
           case h0 => exact T0.keep (fun r hr => by cases hr)
           case hseq =>
            generalize World.drew wr = wz at T0 ⊢
            (refine par_val (v := ?_) (a' := ?_) rfl ?_ ?_ ?_ ?_; rotate_left 2; (· rfl); (· intro w0 hS; have x0 := (hS.cell 1 rfl 0).trans rfl; have x1 := (hS.cell 1 rfl 1).trans rfl; go_simp; first | done | with_reducible rfl); (· go_simp; first | done | with_reducible rfl))
            (refine par_val (v := ?_) (a' := ?_) rfl ?_ ?_ ?_ ?_; rotate_left 2; (· rfl); (· intro w0 hS; go_simp; first | done | with_reducible rfl); (· go_simp; first | done | with_reducible rfl))
            (refine par_val (v := ?_) (a' := ?_) rfl ?_ ?_ ?_ ?_; rotate_left 2; (· rfl); (· intro w0 hS; go_simp; first | done | with_reducible rfl); (· go_simp; first | done | with_reducible rfl))
            (refine par_val (v := ?_) (a' := ?_) rfl ?_ ?_ ?_ ?_; rotate_left 2; (· rfl); (· intro w0 hS; go_simp; first | done | with_reducible rfl); (· go_simp; first | done | with_reducible rfl))
            (refine par_val (v := ?_) (a' := ?_) rfl ?_ ?_ ?_ ?_; rotate_left 2; (· rfl); (· intro w0 hS; go_simp; first | done | with_reducible rfl); (· go_simp; first | done | with_reducible rfl))
            (refine par_val (v := ?_) (a' := ?_) rfl ?_ ?_ ?_ ?_; rotate_left 2; (· rfl); (· intro w0 hS; obtain ⟨ad, e, x⟩ := Kd.at_int (Kd.C_below HR2.out hS.bel) i HI.out.2.1 k1; cases e; rw [HAM.out] at x; go_simp; first | done | with_reducible rfl); (· go_simp; first | done | with_reducible rfl))
            refine par_each [6, 11] (by kernel_rfl) (by kernel_rfl) ?_
            refine each_op (l' := [7, 8, 9, 10, 11, 12, 13, 14]) rfl (by rfl) (by kernel_rfl) (fun K hK => ?_) ?_
            · go_simp
              go_at_call 48
              refine (reserve_ 1000 kk am T0 (show Row.a (.slice sA t.length sc) (t.map cv) ∈ _ by simp) (show Row.c (.slice sB t.length sd) (layp t (clm t 3 kk).1 had.sum) ∈ _ by simp) HRF.out).mono ?_
              rintro e wk ⟨u0, u1, rfl, TK⟩
              clear T0
              obtain ⟨uA, uc, rfl⟩ := va' TK (show Row.a u0 (t.map cv) ∈ _ by simp)
              obtain ⟨uB, ud, rfl⟩ := vc' TK (show Row.c u1 (layp t (clm t 3 kk).1 had.sum) ∈ _ by simp)
              refine hK _ _ ((TK).keep (fun r hr => by cases hr)) ?_
              clear hK K
              (refine par_val (v := ?_) (a' := ?_) rfl ?_ ?_ ?_ ?_; rotate_left 2; (· rfl); (· intro w0 hS; go_simp; first | done | with_reducible rfl); (· go_simp; first | done | with_reducible rfl))
              (refine par_val (v := ?_) (a' := ?_) rfl ?_ ?_ ?_ ?_; rotate_left 2; (· rfl); (· intro w0 hS; go_simp; first | done | with_reducible rfl); (· go_simp; first | done | with_reducible rfl))
              (refine par_val (v := ?_) (a' := ?_) rfl ?_ ?_ ?_ ?_; rotate_left 2; (· rfl); (· intro w0 hS; go_simp; first | done | with_reducible rfl); (· go_simp; first | done | with_reducible rfl))
              (refine par_val (v := ?_) (a' := ?_) rfl ?_ ?_ ?_ ?_; rotate_left 2; (· rfl); (· intro w0 hS; go_simp; first | done | with_reducible rfl); (· go_simp; first | done | with_reducible rfl))
              refine par_each [11] (by kernel_rfl) (by kernel_rfl) ?_
              refine each_op (l' := [12, 13, 14]) rfl (by rfl) (by kernel_rfl) (fun K hK => ?_) ?_
              · go_simp
                have TA := TK.alloc #[.slice none 0 0, .slice none 0 0] 61
                refine hK _ _ ((TA.drop 1).keep (fun r hr => by cases hr)) ?_
                clear hK K TK
                generalize wk.alloc (.cells #[.slice none 0 0, .slice none 0 0] 61) = wa at TA ⊢
                generalize wk.heap.size = gx at TA ⊢
                refine par_each [12] (by kernel_rfl) (by kernel_rfl) ?_
                refine each_op (l' := [13, 14]) rfl (by rfl) (by kernel_rfl) (fun K hK => ?_) ?_
                · have m0 := (TA.cell 0 rfl 0).trans rfl
                  have l0 := TA.froz 0 rfl 0
                  have m1 := (TA.cell 0 rfl 1).trans rfl
                  have l1 := TA.froz 0 rfl 1
                  go_simp
                  have TS : Cfg w _ (⟨gx, 61, #[(.slice uA t.length uc), (.slice uB t.length ud)]⟩ :: [⟨g12, 58, #[(.slice qA t.length qc), (.slice qB t.length qd)]⟩, ⟨g10, 61, #[(.slice sA t.length sc), (.slice sB t.length sd)]⟩, ⟨g4, 86, #[.int .i64 lf, .int .i64 cp]⟩]) u13 had _ := (TA.set 0 rfl 0 (.slice uA t.length uc) rfl).set 0 rfl 1 (.slice uB t.length ud) rfl
                  clear m0 m1 l0 l1
                  refine hK _ _ ((TS.drop 1).keep (fun r hr => by cases hr)) ?_
                  clear hK K TA
                  (refine par_val (v := ?_) (a' := ?_) rfl ?_ ?_ ?_ ?_; rotate_left 2; (· rfl); (· intro w0 hS; go_simp; first | done | with_reducible rfl); (· go_simp; first | done | with_reducible rfl))
                  (refine par_val (v := ?_) (a' := ?_) rfl ?_ ?_ ?_ ?_; rotate_left 2; (· rfl); (· intro w0 hS; go_simp; first | done | with_reducible rfl); (· go_simp; first | done | with_reducible rfl))
                  refine par_nil ?_
                  go_wp2_with (fail)
                  go_meet
                  case rel => exact ⟨gx, uA, uB, uc, ud, rfl, rfl, rfl, ⟨TS.keep (R' := [Row.a (.slice uA t.length uc) (t.map cv), Row.c (.slice uB t.length ud) (layp t (clm t 3 kk).1 had.sum), Row.a (.slice sA t.length sc) (t.map cv), Row.c (.slice sB t.length sd) (layp t (clm t 3 kk).1 had.sum), Row.b (.slice nA t.length nc) t, Row.b (.slice qA t.length qc) t, Row.c (.slice qB t.length qd) (layp t (clm t 3 kk).1 0)]) (fun r hr => hr)⟩⟩
                exact each_nil
              exact each_nil
            refine each_op (l' := [6, 7, 8, 9, 10, 12, 13, 14]) rfl (by rfl) (by kernel_rfl) (fun K hK => ?_) ?_
            · go_simp
              have TA := T0.alloc #[.slice none 0 0, .slice none 0 0] 61
              refine hK _ _ ((TA.drop 1).keep (fun r hr => by cases hr)) ?_
              clear hK K T0
              generalize wz.alloc (.cells #[.slice none 0 0, .slice none 0 0] 61) = wa at TA ⊢
              generalize wz.heap.size = gx at TA ⊢
              refine par_each [6] (by kernel_rfl) (by kernel_rfl) ?_
              refine each_op (l' := [7, 8, 9, 10, 12, 13, 14]) rfl (by rfl) (by kernel_rfl) (fun K hK => ?_) ?_
              · go_simp
                go_at_call 48
                refine (reserve_ 1000 kk am TA (show Row.a (.slice sA t.length sc) (t.map cv) ∈ _ by simp) (show Row.c (.slice sB t.length sd) (layp t (clm t 3 kk).1 had.sum) ∈ _ by simp) HRF.out).mono ?_
                rintro e wk ⟨u0, u1, rfl, TK⟩
                clear TA
                obtain ⟨uA, uc, rfl⟩ := va' TK (show Row.a u0 (t.map cv) ∈ _ by simp)
                obtain ⟨uB, ud, rfl⟩ := vc' TK (show Row.c u1 (layp t (clm t 3 kk).1 had.sum) ∈ _ by simp)
                refine hK _ _ ((TK.drop 1).keep (fun r hr => by cases hr)) ?_
                clear hK K
                (refine par_val (v := ?_) (a' := ?_) rfl ?_ ?_ ?_ ?_; rotate_left 2; (· rfl); (· intro w0 hS; go_simp; first | done | with_reducible rfl); (· go_simp; first | done | with_reducible rfl))
                (refine par_val (v := ?_) (a' := ?_) rfl ?_ ?_ ?_ ?_; rotate_left 2; (· rfl); (· intro w0 hS; go_simp; first | done | with_reducible rfl); (· go_simp; first | done | with_reducible rfl))
                (refine par_val (v := ?_) (a' := ?_) rfl ?_ ?_ ?_ ?_; rotate_left 2; (· rfl); (· intro w0 hS; go_simp; first | done | with_reducible rfl); (· go_simp; first | done | with_reducible rfl))
                (refine par_val (v := ?_) (a' := ?_) rfl ?_ ?_ ?_ ?_; rotate_left 2; (· rfl); (· intro w0 hS; go_simp; first | done | with_reducible rfl); (· go_simp; first | done | with_reducible rfl))
                refine par_each [12] (by kernel_rfl) (by kernel_rfl) ?_
                refine each_op (l' := [13, 14]) rfl (by rfl) (by kernel_rfl) (fun K hK => ?_) ?_
                · have m0 := (TK.cell 0 rfl 0).trans rfl
                  have l0 := TK.froz 0 rfl 0
                  have m1 := (TK.cell 0 rfl 1).trans rfl
                  have l1 := TK.froz 0 rfl 1
                  go_simp
                  have TS : Cfg w _ (⟨gx, 61, #[(.slice uA t.length uc), (.slice uB t.length ud)]⟩ :: [⟨g12, 58, #[(.slice qA t.length qc), (.slice qB t.length qd)]⟩, ⟨g10, 61, #[(.slice sA t.length sc), (.slice sB t.length sd)]⟩, ⟨g4, 86, #[.int .i64 lf, .int .i64 cp]⟩]) u13 had _ := (TK.set 0 rfl 0 (.slice uA t.length uc) rfl).set 0 rfl 1 (.slice uB t.length ud) rfl
                  clear m0 m1 l0 l1
                  refine hK _ _ ((TS.drop 1).keep (fun r hr => by cases hr)) ?_
                  clear hK K TK
                  (refine par_val (v := ?_) (a' := ?_) rfl ?_ ?_ ?_ ?_; rotate_left 2; (· rfl); (· intro w0 hS; go_simp; first | done | with_reducible rfl); (· go_simp; first | done | with_reducible rfl))
                  (refine par_val (v := ?_) (a' := ?_) rfl ?_ ?_ ?_ ?_; rotate_left 2; (· rfl); (· intro w0 hS; go_simp; first | done | with_reducible rfl); (· go_simp; first | done | with_reducible rfl))
                  refine par_nil ?_
                  go_wp2_with (fail)
                  go_meet
                  case rel => exact ⟨gx, uA, uB, uc, ud, rfl, rfl, rfl, ⟨TS.keep (R' := [Row.a (.slice uA t.length uc) (t.map cv), Row.c (.slice uB t.length ud) (layp t (clm t 3 kk).1 had.sum), Row.a (.slice sA t.length sc) (t.map cv), Row.c (.slice sB t.length sd) (layp t (clm t 3 kk).1 had.sum), Row.b (.slice nA t.length nc) t, Row.b (.slice qA t.length qc) t, Row.c (.slice qB t.length qd) (layp t (clm t 3 kk).1 0)]) (fun r hr => hr)⟩⟩
                exact each_nil
              exact each_nil
            exact each_nil
          case rest =>
           obtain ⟨g15, xA, xB, xc, xd, rfl, rfl, rfl, HT2⟩ := hcut
           clear HT
           have T := HT2.out
           clear HT2
           obtain ⟨a1, e1, x9⟩ := Kd.at_int (Kd.C_below HR2.out T.bel) i HI.out.2.1 k1
           cases e1
           rw [HAM.out] at x9
           go_upto_region 12 with (fail)
           clear x9
           have HT := Aside0.mk T
           clear T
           go_cut [18, 19, 20] (fun v18 v19 v20 wc => ∃ (gx : Nat) (uA uB : Option Addr) (uc ud : Nat), v18 = .pointer (some ⟨gx, 0, none⟩) ∧ v19 = .int .i64 cd ∧ v20 = .int .i64 nd ∧ Aside0 (Cfg w wc (⟨gx, 61, #[(.slice uA t.length uc), (.slice uB t.length ud)]⟩ :: [⟨g15, 61, #[(.slice xA t.length xc), (.slice xB t.length xd)]⟩, ⟨g12, 58, #[(.slice qA t.length qc), (.slice qB t.length qd)]⟩, ⟨g10, 61, #[(.slice sA t.length sc), (.slice sB t.length sd)]⟩, ⟨g4, 86, #[.int .i64 lf, .int .i64 cp]⟩]) u13 had [Row.a (.slice uA t.length uc) (t.map cv), Row.c (.slice uB t.length ud) (layp t (clm t 3 kk).1 had.sum), Row.a (.slice xA t.length xc) (t.map cv), Row.c (.slice xB t.length xd) (layp t (clm t 3 kk).1 had.sum), Row.a (.slice sA t.length sc) (t.map cv), Row.c (.slice sB t.length sd) (layp t (clm t 3 kk).1 had.sum), Row.b (.slice nA t.length nc) t, Row.b (.slice qA t.length qc) t, Row.c (.slice qB t.length qd) (layp t (clm t 3 kk).1 0)]))
           case first =>
            have T := HT.out
            clear HT
            have T0 := T.drew
            clear T
            refine wp_region_par (fun w' => Cfg w w' [⟨g15, 61, #[(.slice xA t.length xc), (.slice xB t.length xd)]⟩, ⟨g12, 58, #[(.slice qA t.length qc), (.slice qB t.length qd)]⟩, ⟨g10, 61, #[(.slice sA t.length sc), (.slice sB t.length sd)]⟩, ⟨g4, 86, #[.int .i64 lf, .int .i64 cp]⟩] u13 had []) [6, 11, 12] [0, 1, 2, 3, 4, 5, 6, 7, 8, 9, 10, 11, 12, 13, 14] (by kernel_rfl) (by kernel_rfl) (by kernel_rfl) (by kernel_rfl) (by kernel_rfl) (fun _ _ d _ _ h => by cases d <;> exact h) ?h0 ?hseq
            case h0 => exact T0.keep (fun r hr => by cases hr)
            case hseq =>
             generalize World.drew wc = wz at T0 ⊢
             (refine par_val (v := ?_) (a' := ?_) rfl ?_ ?_ ?_ ?_; rotate_left 2; (· rfl); (· intro w0 hS; have x0 := (hS.cell 2 rfl 0).trans rfl; have x1 := (hS.cell 2 rfl 1).trans rfl; go_simp; first | done | with_reducible rfl); (· go_simp; first | done | with_reducible rfl))
             (refine par_val (v := ?_) (a' := ?_) rfl ?_ ?_ ?_ ?_; rotate_left 2; (· rfl); (· intro w0 hS; go_simp; first | done | with_reducible rfl); (· go_simp; first | done | with_reducible rfl))
             (refine par_val (v := ?_) (a' := ?_) rfl ?_ ?_ ?_ ?_; rotate_left 2; (· rfl); (· intro w0 hS; go_simp; first | done | with_reducible rfl); (· go_simp; first | done | with_reducible rfl))
             (refine par_val (v := ?_) (a' := ?_) rfl ?_ ?_ ?_ ?_; rotate_left 2; (· rfl); (· intro w0 hS; go_simp; first | done | with_reducible rfl); (· go_simp; first | done | with_reducible rfl))
             (refine par_val (v := ?_) (a' := ?_) rfl ?_ ?_ ?_ ?_; rotate_left 2; (· rfl); (· intro w0 hS; go_simp; first | done | with_reducible rfl); (· go_simp; first | done | with_reducible rfl))
             (refine par_val (v := ?_) (a' := ?_) rfl ?_ ?_ ?_ ?_; rotate_left 2; (· rfl); (· intro w0 hS; obtain ⟨ad, e, x⟩ := Kd.at_int (Kd.C_below HR2.out hS.bel) i HI.out.2.1 k1; cases e; rw [HAM.out] at x; go_simp; first | done | with_reducible rfl); (· go_simp; first | done | with_reducible rfl))
             refine par_each [6, 11] (by kernel_rfl) (by kernel_rfl) ?_
             refine each_op (l' := [7, 8, 9, 10, 11, 12, 13, 14]) rfl (by rfl) (by kernel_rfl) (fun K hK => ?_) ?_
             · go_simp
               go_at_call 48
               refine (reserve_ 1000 kk am T0 (show Row.a (.slice sA t.length sc) (t.map cv) ∈ _ by simp) (show Row.c (.slice sB t.length sd) (layp t (clm t 3 kk).1 had.sum) ∈ _ by simp) HRF.out).mono ?_
               rintro e wk ⟨u0, u1, rfl, TK⟩
               clear T0
               obtain ⟨uA, uc, rfl⟩ := va' TK (show Row.a u0 (t.map cv) ∈ _ by simp)
               obtain ⟨uB, ud, rfl⟩ := vc' TK (show Row.c u1 (layp t (clm t 3 kk).1 had.sum) ∈ _ by simp)
               refine hK _ _ ((TK).keep (fun r hr => by cases hr)) ?_
               clear hK K
               (refine par_val (v := ?_) (a' := ?_) rfl ?_ ?_ ?_ ?_; rotate_left 2; (· rfl); (· intro w0 hS; go_simp; first | done | with_reducible rfl); (· go_simp; first | done | with_reducible rfl))
               (refine par_val (v := ?_) (a' := ?_) rfl ?_ ?_ ?_ ?_; rotate_left 2; (· rfl); (· intro w0 hS; go_simp; first | done | with_reducible rfl); (· go_simp; first | done | with_reducible rfl))
               (refine par_val (v := ?_) (a' := ?_) rfl ?_ ?_ ?_ ?_; rotate_left 2; (· rfl); (· intro w0 hS; go_simp; first | done | with_reducible rfl); (· go_simp; first | done | with_reducible rfl))
               (refine par_val (v := ?_) (a' := ?_) rfl ?_ ?_ ?_ ?_; rotate_left 2; (· rfl); (· intro w0 hS; go_simp; first | done | with_reducible rfl); (· go_simp; first | done | with_reducible rfl))
               refine par_each [11] (by kernel_rfl) (by kernel_rfl) ?_
               refine each_op (l' := [12, 13, 14]) rfl (by rfl) (by kernel_rfl) (fun K hK => ?_) ?_
               · go_simp
                 have TA := TK.alloc #[.slice none 0 0, .slice none 0 0] 61
                 refine hK _ _ ((TA.drop 1).keep (fun r hr => by cases hr)) ?_
                 clear hK K TK
                 generalize wk.alloc (.cells #[.slice none 0 0, .slice none 0 0] 61) = wa at TA ⊢
                 generalize wk.heap.size = gx at TA ⊢
                 refine par_each [12] (by kernel_rfl) (by kernel_rfl) ?_
                 refine each_op (l' := [13, 14]) rfl (by rfl) (by kernel_rfl) (fun K hK => ?_) ?_
                 · have m0 := (TA.cell 0 rfl 0).trans rfl
                   have l0 := TA.froz 0 rfl 0
                   have m1 := (TA.cell 0 rfl 1).trans rfl
                   have l1 := TA.froz 0 rfl 1
                   go_simp
                   have TS : Cfg w _ (⟨gx, 61, #[(.slice uA t.length uc), (.slice uB t.length ud)]⟩ :: [⟨g15, 61, #[(.slice xA t.length xc), (.slice xB t.length xd)]⟩, ⟨g12, 58, #[(.slice qA t.length qc), (.slice qB t.length qd)]⟩, ⟨g10, 61, #[(.slice sA t.length sc), (.slice sB t.length sd)]⟩, ⟨g4, 86, #[.int .i64 lf, .int .i64 cp]⟩]) u13 had _ := (TA.set 0 rfl 0 (.slice uA t.length uc) rfl).set 0 rfl 1 (.slice uB t.length ud) rfl
                   clear m0 m1 l0 l1
                   refine hK _ _ ((TS.drop 1).keep (fun r hr => by cases hr)) ?_
                   clear hK K TA
                   (refine par_val (v := ?_) (a' := ?_) rfl ?_ ?_ ?_ ?_; rotate_left 2; (· rfl); (· intro w0 hS; go_simp; first | done | with_reducible rfl); (· go_simp; first | done | with_reducible rfl))
                   (refine par_val (v := ?_) (a' := ?_) rfl ?_ ?_ ?_ ?_; rotate_left 2; (· rfl); (· intro w0 hS; go_simp; first | done | with_reducible rfl); (· go_simp; first | done | with_reducible rfl))
                   refine par_nil ?_
                   go_wp2_with (fail)
                   go_meet
                   case rel => exact ⟨gx, uA, uB, uc, ud, rfl, rfl, rfl, ⟨TS.keep (R' := [Row.a (.slice uA t.length uc) (t.map cv), Row.c (.slice uB t.length ud) (layp t (clm t 3 kk).1 had.sum), Row.a (.slice xA t.length xc) (t.map cv), Row.c (.slice xB t.length xd) (layp t (clm t 3 kk).1 had.sum), Row.a (.slice sA t.length sc) (t.map cv), Row.c (.slice sB t.length sd) (layp t (clm t 3 kk).1 had.sum), Row.b (.slice nA t.length nc) t, Row.b (.slice qA t.length qc) t, Row.c (.slice qB t.length qd) (layp t (clm t 3 kk).1 0)]) (fun r hr => hr)⟩⟩
                 exact each_nil
               exact each_nil
             refine each_op (l' := [6, 7, 8, 9, 10, 12, 13, 14]) rfl (by rfl) (by kernel_rfl) (fun K hK => ?_) ?_
             · go_simp
               have TA := T0.alloc #[.slice none 0 0, .slice none 0 0] 61
               refine hK _ _ ((TA.drop 1).keep (fun r hr => by cases hr)) ?_
               clear hK K T0
               generalize wz.alloc (.cells #[.slice none 0 0, .slice none 0 0] 61) = wa at TA ⊢
               generalize wz.heap.size = gx at TA ⊢
               refine par_each [6] (by kernel_rfl) (by kernel_rfl) ?_
               refine each_op (l' := [7, 8, 9, 10, 12, 13, 14]) rfl (by rfl) (by kernel_rfl) (fun K hK => ?_) ?_
               · go_simp
                 go_at_call 48
                 refine (reserve_ 1000 kk am TA (show Row.a (.slice sA t.length sc) (t.map cv) ∈ _ by simp) (show Row.c (.slice sB t.length sd) (layp t (clm t 3 kk).1 had.sum) ∈ _ by simp) HRF.out).mono ?_
                 rintro e wk ⟨u0, u1, rfl, TK⟩
                 clear TA
                 obtain ⟨uA, uc, rfl⟩ := va' TK (show Row.a u0 (t.map cv) ∈ _ by simp)
                 obtain ⟨uB, ud, rfl⟩ := vc' TK (show Row.c u1 (layp t (clm t 3 kk).1 had.sum) ∈ _ by simp)
                 refine hK _ _ ((TK.drop 1).keep (fun r hr => by cases hr)) ?_
                 clear hK K
                 (refine par_val (v := ?_) (a' := ?_) rfl ?_ ?_ ?_ ?_; rotate_left 2; (· rfl); (· intro w0 hS; go_simp; first | done | with_reducible rfl); (· go_simp; first | done | with_reducible rfl))
                 (refine par_val (v := ?_) (a' := ?_) rfl ?_ ?_ ?_ ?_; rotate_left 2; (· rfl); (· intro w0 hS; go_simp; first | done | with_reducible rfl); (· go_simp; first | done | with_reducible rfl))
                 (refine par_val (v := ?_) (a' := ?_) rfl ?_ ?_ ?_ ?_; rotate_left 2; (· rfl); (· intro w0 hS; go_simp; first | done | with_reducible rfl); (· go_simp; first | done | with_reducible rfl))
                 (refine par_val (v := ?_) (a' := ?_) rfl ?_ ?_ ?_ ?_; rotate_left 2; (· rfl); (· intro w0 hS; go_simp; first | done | with_reducible rfl); (· go_simp; first | done | with_reducible rfl))
                 refine par_each [12] (by kernel_rfl) (by kernel_rfl) ?_
                 refine each_op (l' := [13, 14]) rfl (by rfl) (by kernel_rfl) (fun K hK => ?_) ?_
                 · have m0 := (TK.cell 0 rfl 0).trans rfl
                   have l0 := TK.froz 0 rfl 0
                   have m1 := (TK.cell 0 rfl 1).trans rfl
                   have l1 := TK.froz 0 rfl 1
                   go_simp
                   have TS : Cfg w _ (⟨gx, 61, #[(.slice uA t.length uc), (.slice uB t.length ud)]⟩ :: [⟨g15, 61, #[(.slice xA t.length xc), (.slice xB t.length xd)]⟩, ⟨g12, 58, #[(.slice qA t.length qc), (.slice qB t.length qd)]⟩, ⟨g10, 61, #[(.slice sA t.length sc), (.slice sB t.length sd)]⟩, ⟨g4, 86, #[.int .i64 lf, .int .i64 cp]⟩]) u13 had _ := (TK.set 0 rfl 0 (.slice uA t.length uc) rfl).set 0 rfl 1 (.slice uB t.length ud) rfl
                   clear m0 m1 l0 l1
                   refine hK _ _ ((TS.drop 1).keep (fun r hr => by cases hr)) ?_
                   clear hK K TK
                   (refine par_val (v := ?_) (a' := ?_) rfl ?_ ?_ ?_ ?_; rotate_left 2; (· rfl); (· intro w0 hS; go_simp; first | done | with_reducible rfl); (· go_simp; first | done | with_reducible rfl))
                   (refine par_val (v := ?_) (a' := ?_) rfl ?_ ?_ ?_ ?_; rotate_left 2; (· rfl); (· intro w0 hS; go_simp; first | done | with_reducible rfl); (· go_simp; first | done | with_reducible rfl))
                   refine par_nil ?_
                   go_wp2_with (fail)
                   go_meet
                   case rel => exact ⟨gx, uA, uB, uc, ud, rfl, rfl, rfl, ⟨TS.keep (R' := [Row.a (.slice uA t.length uc) (t.map cv), Row.c (.slice uB t.length ud) (layp t (clm t 3 kk).1 had.sum), Row.a (.slice xA t.length xc) (t.map cv), Row.c (.slice xB t.length xd) (layp t (clm t 3 kk).1 had.sum), Row.a (.slice sA t.length sc) (t.map cv), Row.c (.slice sB t.length sd) (layp t (clm t 3 kk).1 had.sum), Row.b (.slice nA t.length nc) t, Row.b (.slice qA t.length qc) t, Row.c (.slice qB t.length qd) (layp t (clm t 3 kk).1 0)]) (fun r hr => hr)⟩⟩
                 exact each_nil
               exact each_nil
             exact each_nil
           case rest =>
            obtain ⟨g18, yA, yB, yc, yd, rfl, rfl, rfl, HT2⟩ := hcut
            clear HT
            have T := HT2.out
            clear HT2
            go_wp2_with (fail)
            have T0 := T.drew
            clear T
            refine wp_region_seq (fun w' => Cfg w w' [⟨g18, 61, #[(.slice yA t.length yc), (.slice yB t.length yd)]⟩, ⟨g15, 61, #[(.slice xA t.length xc), (.slice xB t.length xd)]⟩, ⟨g12, 58, #[(.slice qA t.length qc), (.slice qB t.length qd)]⟩, ⟨g10, 61, #[(.slice sA t.length sc), (.slice sB t.length sd)]⟩, ⟨g4, 86, #[.int .i64 lf, .int .i64 cp]⟩] u13 had [Row.a (.slice yA t.length yc) (t.map cv), Row.c (.slice yB t.length yd) (layp t (clm t 3 kk).1 had.sum), Row.a (.slice xA t.length xc) (t.map cv), Row.c (.slice xB t.length xd) (layp t (clm t 3 kk).1 had.sum), Row.a (.slice sA t.length sc) (t.map cv), Row.c (.slice sB t.length sd) (layp t (clm t 3 kk).1 had.sum), Row.b (.slice nA t.length nc) t, Row.b (.slice qA t.length qc) t, Row.c (.slice qB t.length qd) (layp t (clm t 3 kk).1 0)]) [5, 7, 8] [0, 1, 2, 3, 4, 6, 5, 7, 8, 9, 10] (by kernel_rfl) (by kernel_rfl) (by kernel_rfl) (by kernel_rfl) (by kernel_rfl) (fun _ _ d _ _ h => by cases d <;> exact h) ?h0 ?hseq
            case h0 => exact T0
            case hseq =>
             first | (refine seq_val (v := ?_) (a' := ?_) rfl ?_ ?_ ?_ ?_; rotate_left 2; (· rfl); (· intro w0 hS; go_simp; first | done | with_reducible rfl); (· go_simp; first | done | with_reducible rfl)) | (refine seq_off (a' := ?_) rfl ?_ ?_ ?_; rotate_left 1; (· rfl); (· go_simp; first | done | with_reducible rfl))
             first | (refine seq_val (v := ?_) (a' := ?_) rfl ?_ ?_ ?_ ?_; rotate_left 2; (· rfl); (· intro w0 hS; go_simp; first | done | with_reducible rfl); (· go_simp; first | done | with_reducible rfl)) | (refine seq_off (a' := ?_) rfl ?_ ?_ ?_; rotate_left 1; (· rfl); (· go_simp; first | done | with_reducible rfl))
             first | (refine seq_val (v := ?_) (a' := ?_) rfl ?_ ?_ ?_ ?_; rotate_left 2; (· rfl); (· intro w0 hS; go_simp; first | done | with_reducible rfl); (· go_simp; first | done | with_reducible rfl)) | (refine seq_off (a' := ?_) rfl ?_ ?_ ?_; rotate_left 1; (· rfl); (· go_simp; first | done | with_reducible rfl))
             first | (refine seq_val (v := ?_) (a' := ?_) rfl ?_ ?_ ?_ ?_; rotate_left 2; (· rfl); (· intro w0 hS; go_simp; first | done | with_reducible rfl); (· go_simp; first | done | with_reducible rfl)) | (refine seq_off (a' := ?_) rfl ?_ ?_ ?_; rotate_left 1; (· rfl); (· go_simp; first | done | with_reducible rfl))
             first | (refine seq_val (v := ?_) (a' := ?_) rfl ?_ ?_ ?_ ?_; rotate_left 2; (· rfl); (· intro w0 hS; have x0 := (hS.cell 0 rfl 0).trans rfl; have x1 := (hS.cell 0 rfl 1).trans rfl; go_simp; first | done | with_reducible rfl); (· go_simp; first | done | with_reducible rfl)) | (refine seq_off (a' := ?_) rfl ?_ ?_ ?_; rotate_left 1; (· rfl); (· go_simp; first | done | with_reducible rfl))
             first | (refine seq_val (v := ?_) (a' := ?_) rfl ?_ ?_ ?_ ?_; rotate_left 2; (· rfl); (· intro w0 hS; have x0 := (hS.cell 3 rfl 0).trans rfl; have x1 := (hS.cell 3 rfl 1).trans rfl; go_simp; first | done | with_reducible rfl); (· go_simp; first | done | with_reducible rfl)) | (refine seq_off (a' := ?_) rfl ?_ ?_ ?_; rotate_left 1; (· rfl); (· go_simp; first | done | with_reducible rfl))
             refine seq_op rfl (by kernel_rfl) (by rfl) (fun K hK => ?_)
             go_simp
             go_at_call 49
             refine (from_ 1000 T0 (show Row.a (.slice yA t.length yc) (t.map cv) ∈ _ by simp) (show Row.c (.slice yB t.length yd) (layp t (clm t 3 kk).1 had.sum) ∈ _ by simp) HFR2.out).mono ?_
             rintro e wa ⟨f0, f1, rfl, T1⟩
             refine hK _ _ (T1.keep (fun r hr => List.mem_cons_of_mem _ (List.mem_cons_of_mem _ hr))) ?_
             clear hK K T0
             refine seq_op rfl (by kernel_rfl) (by rfl) (fun K hK => ?_)
             go_simp
             go_at_call 49
             refine (from_ 1000 T1 (show Row.a (.slice sA t.length sc) (t.map cv) ∈ _ by simp) (show Row.c (.slice sB t.length sd) (layp t (clm t 3 kk).1 had.sum) ∈ _ by simp) HFR2.out).mono ?_
             rintro e wb ⟨f2, f3, rfl, T2⟩
             refine hK _ _ (T2.keep (fun r hr => List.mem_cons_of_mem _ (List.mem_cons_of_mem _ (List.mem_cons_of_mem _ (List.mem_cons_of_mem _ hr))))) ?_
             clear hK K T1
             refine seq_op rfl (by kernel_rfl) (by rfl) (fun K hK => ?_)
             go_simp
             go_at_call 51
             refine (same_ 1000 T2 (show Row.b f0 t ∈ _ by simp) (show Row.c f1 (layp t (clm t 3 kk).1 had.sum) ∈ _ by simp) (show Row.b f2 t ∈ _ by simp) (show Row.c f3 (layp t (clm t 3 kk).1 had.sum) ∈ _ by simp) HSM2.out).mono ?_
             rintro e wd ⟨rfl, T3⟩
             have T4 := T3.keep (R' := [Row.a (.slice yA t.length yc) (t.map cv), Row.c (.slice yB t.length yd) (layp t (clm t 3 kk).1 had.sum), Row.a (.slice xA t.length xc) (t.map cv), Row.c (.slice xB t.length xd) (layp t (clm t 3 kk).1 had.sum), Row.a (.slice sA t.length sc) (t.map cv), Row.c (.slice sB t.length sd) (layp t (clm t 3 kk).1 had.sum), Row.b (.slice nA t.length nc) t, Row.b (.slice qA t.length qc) t, Row.c (.slice qB t.length qd) (layp t (clm t 3 kk).1 0)]) (fun r hr => List.mem_cons_of_mem _ (List.mem_cons_of_mem _ (List.mem_cons_of_mem _ (List.mem_cons_of_mem _ hr))))
             refine hK _ _ T4 ?_
             clear hK K T2 T3
             first | (refine seq_val (v := ?_) (a' := ?_) rfl ?_ ?_ ?_ ?_; rotate_left 2; (· rfl); (· intro w0 hS; go_simp; first | done | with_reducible rfl); (· go_simp; first | done | with_reducible rfl)) | (refine seq_off (a' := ?_) rfl ?_ ?_ ?_; rotate_left 1; (· rfl); (· go_simp; first | done | with_reducible rfl))
             first | (refine seq_val (v := ?_) (a' := ?_) rfl ?_ ?_ ?_ ?_; rotate_left 2; (· rfl); (· intro w0 hS; go_simp; first | done | with_reducible rfl); (· go_simp; first | done | with_reducible rfl)) | (refine seq_off (a' := ?_) rfl ?_ ?_ ?_; rotate_left 1; (· rfl); (· go_simp; first | done | with_reducible rfl))
             refine seq_nil ?_
             go_wp2_with (fail)
             go_roundg ((l2.length : Int) - i).toNat
             case measure => omega
             case rel => exact ⟨i + 1, had, sA, sB, sc, sd, rfl, ⟨by have := HI.out; exact ⟨by omega, by omega, by omega, by omega, by omega, this.2.2.2.2.2⟩⟩, HG2, ⟨(T4.drop 2).keep (R' := [Row.a (.slice sA t.length sc) (t.map cv), Row.c (.slice sB t.length sd) (layp t (clm t 3 kk).1 had.sum), Row.b (.slice nA t.length nc) t, Row.b (.slice qA t.length qc) t, Row.c (.slice qB t.length qd) (layp t (clm t 3 kk).1 0)]) (fun r hr => List.mem_cons_of_mem _ (List.mem_cons_of_mem _ (List.mem_cons_of_mem _ (List.mem_cons_of_mem _ hr))))⟩⟩
      · have c9b := decide_eq_false k2
        go_wp2_with (fail)
        go_meet
        case rel => exact ⟨had, sA, sB, sc, sd, ⟨by omega, hi.2.2.2.2.2⟩, HG2, HT⟩
    · have c9b := decide_eq_false k1
      go_wp2_with (fail)
      go_meet
      case rel => exact ⟨had, sA, sB, sc, sd, ⟨by omega, hi.2.2.2.2.2⟩, HG2, HT⟩
  case rest =>
   obtain ⟨had, sA, sB, sc, sd, HI, HG2, HT2⟩ := hcut
   clear HT
   have T := HT2.out
   clear HT2
   obtain ⟨hA, hcap, rfl, _, _⟩ := Kd.R_reads T.own
   have hV : Vb k68 wc (bad [⟨g12, 58, #[(.slice qA t.length qc), (.slice qB t.length qd)]⟩, ⟨g10, 61, #[(.slice sA t.length sc), (.slice sB t.length sd)]⟩, ⟨g4, 86, #[.int .i64 lf, .int .i64 cp]⟩] (.slice hA had.length hcap)) (.slice nA t.length nc) t := T.rows _ (show Row.b (.slice nA t.length nc) t ∈ _ by simp)
   obtain ⟨a3, e3, n0, n1⟩ := at_T68 (Kd.V_reads' hV).2.2 kk HKK.out.1 HKK.out.2
   cases e3
   clear hV
   have hcp := HG2.out.cap kk HKK.out.1 HKK.out.2
   have hcf : cap t kk = (rd_T68 t kk).f1 := rfl
   rw [hcf] at hcp
   generalize hcc : (rd_T68 t kk).f1 = cc at hcp n1 hcf
   have hu1 : IntKind.u64.wrap cc = cc := Pure.u64_wrap_in (by omega) (by omega)
   have hu2 : IntKind.u64.wrap (cc + 1) = cc + 1 := Pure.u64_wrap_in (by omega) (by omega)
   have hz1 : ((cc + 1) == 0) = false := beq_eq_false_iff_ne.mpr (by omega)
   have hz2 : ¬ (cc + 1 = 0) := by omega
   have hlo := lin cp cc hcp.1 hcp.2
   generalize hlo2 : wrap64 (Int.tmod (IntKind.u64.wrap cp) (cc + 1)) = lo at hlo
   have g0 := eq_true HKK.out.1
   have g1 := eq_true HKK.out.2
   have HCC := Aside0.mk hcc
   have HCF := Aside0.mk hcf
   have HCP := Aside0.mk hcp
   have HLO := Aside0.mk hlo
   clear hcc hcf
   have hl1 := Pure.low_lim (t := t) (k := kk) (most := lo) HKK.out.1 HKK.out.2 HLO.out.1 (by have h1 := HLO.out; have h2 := HCP.out; omega)
   have hl2 := Pure.lim_f HG2.out kk lo
   have hl3 := Pure.limF_good HG2.out kk lo
   rw [hl1] at hl2 hl3
   have hl4 := Pure.low_len (t := t) (k := kk) (most := lo) HKK.out.1 HKK.out.2
   have HL2 := Aside0.mk hl2
   have HG3 := Aside0.mk hl3
   have HL4 := Aside0.mk hl4
   clear hl1 hl2 hl3 hl4 hcp hlo
   have m0 := (T.cell 1 rfl 0).trans rfl
   have m1 := (T.cell 1 rfl 1).trans rfl
   go_wp2_with (fail)
   try rw [hlo2]
   clear hlo2 n0 n1 hu1 hu2 hz1 hz2 m0 m1 g0 g1
   refine (limit_ 1000 kk lo T (show Row.a (.slice sA t.length sc) (t.map cv) ∈ _ by simp) (show Row.c (.slice sB t.length sd) (layp t (clm t 3 kk).1 had.sum) ∈ _ by simp) HL2.out).mono ?_
   rintro e w8 ⟨u0, u1, rfl, T8⟩
   clear T
   obtain ⟨eA, ec, rfl⟩ := va2 T8 (show Row.a u0 ((low t kk lo).map cv) ∈ _ by simp) HL4.out
   obtain ⟨eB, ed, rfl⟩ := vc' T8 (show Row.c u1 (layp t (clm t 3 kk).1 had.sum) ∈ _ by simp)
   have T9 := T8.alloc #[(.slice eA t.length ec), (.slice eB t.length ed)] 61
   clear T8
   have m0 := (T9.cell 0 rfl 0).trans rfl
   have n0 := (T9.cell 2 rfl 0).trans rfl
   have m1 := (T9.cell 0 rfl 1).trans rfl
   have n1 := (T9.cell 2 rfl 1).trans rfl
   go_wp2_with (fail)
   refine (told_ T9).mono ?_
   rintro e w9 ⟨rfl, TA⟩
   clear T9 m0 m1 n0 n1
   generalize w8.heap.size = g22 at TA ⊢
   have m0 := (TA.cell 0 rfl 0).trans rfl
   have n0 := (TA.cell 2 rfl 0).trans rfl
   have m1 := (TA.cell 0 rfl 1).trans rfl
   have n1 := (TA.cell 2 rfl 1).trans rfl
   go_upto_block 2 with (fail)
   clear m0 m1 n0 n1
   have T := TA.keep (R' := [Row.a (.slice eA t.length ec) ((low t kk lo).map cv), Row.c (.slice eB t.length ed) (layp t (clm t 3 kk).1 had.sum), Row.a (.slice sA t.length sc) (t.map cv), Row.c (.slice sB t.length sd) (layp t (clm t 3 kk).1 had.sum), Row.b (.slice (some a3) t.length nc) t, Row.b (.slice qA t.length qc) t, Row.c (.slice qB t.length qd) (layp t (clm t 3 kk).1 0)]) (fun r hr => hr)
   clear TA
   have HT := Aside0.mk T
   clear T
   go_cut [24] (fun v24 wc => Aside0 (Cfg w wc [⟨g22, 61, #[(.slice eA t.length ec), (.slice eB t.length ed)]⟩, ⟨g12, 58, #[(.slice qA t.length qc), (.slice qB t.length qd)]⟩, ⟨g10, 61, #[(.slice sA t.length sc), (.slice sB t.length sd)]⟩, ⟨g4, 86, #[.int .i64 lf, .int .i64 cp]⟩] (.slice hA had.length hcap) had [Row.a (.slice eA t.length ec) ((low t kk lo).map cv), Row.c (.slice eB t.length ed) (layp t (clm t 3 kk).1 had.sum), Row.a (.slice sA t.length sc) (t.map cv), Row.c (.slice sB t.length sd) (layp t (clm t 3 kk).1 had.sum), Row.b (.slice (some a3) t.length nc) t, Row.b (.slice qA t.length qc) t, Row.c (.slice qB t.length qd) (layp t (clm t 3 kk).1 0)]))
   case first =>
    have T := HT.out
    clear HT
    go_wp2_with (fail)
    go_loopg [24] (l2.length + 1) (fun kq v24 w' => ∃ (i : Int), v24 = .int .i64 i ∧ Aside0 ((l2.length : Int) + 1 ≤ kq + i ∧ 0 ≤ i ∧ i ≤ l2.length) ∧ Aside0 (Cfg w w' [⟨g22, 61, #[(.slice eA t.length ec), (.slice eB t.length ed)]⟩, ⟨g12, 58, #[(.slice qA t.length qc), (.slice qB t.length qd)]⟩, ⟨g10, 61, #[(.slice sA t.length sc), (.slice sB t.length sd)]⟩, ⟨g4, 86, #[.int .i64 lf, .int .i64 cp]⟩] (.slice hA had.length hcap) had [Row.a (.slice eA t.length ec) ((low t kk lo).map cv), Row.c (.slice eB t.length ed) (layp t (clm t 3 kk).1 had.sum), Row.a (.slice sA t.length sc) (t.map cv), Row.c (.slice sB t.length sd) (layp t (clm t 3 kk).1 had.sum), Row.b (.slice (some a3) t.length nc) t, Row.b (.slice qA t.length qc) t, Row.c (.slice qB t.length qd) (layp t (clm t 3 kk).1 0)]))
    case atStart => exact ⟨0, rfl, ⟨by omega⟩, ⟨T⟩⟩
    case round =>
     obtain ⟨i, rfl, HI2, HT⟩ := hrel
     clear T
     have hi := HI2.out
     by_cases k1 : i < l2.length
     · have c1b := decide_eq_true k1
       by_cases k2 : i < 20
       · have c2b := decide_eq_true k2
         have p0 := eq_true hi.2.1
         have p1 := eq_true k1
         have e9 : wrap64 (i + 1) = i + 1 := by unfold wrap64; omega
         generalize ham : rd l2 i = am
         have hm2 : am ≤ 9223372036854775807 := by rw [← ham]; exact HI9.out _ (by have h9 := Pure.rd_mem l2 i.toNat (by omega); rwa [show ((i.toNat : Nat) : Int) = i by omega] at h9)
         have HAM := Aside0.mk ham
         have HM2 := Aside0.mk hm2
         clear ham hm2
         have hlw := fun hc => Pure.low_res (t := t) (s := had.sum) HKK.out.1 HKK.out.2 HG2.out HG3.out (by have h1 := HLO.out; rw [HCF.out]; exact h1.2) am hc
         have h1 := Pure.res_f t (by have := H10.out; omega) HG2.out.cap _ HG2.out.inv kk am HM2.out (k := 1000) (by omega)
         have h2 := Pure.res_f (low t kk lo) (by have h8 := HL4.out; have := H10.out; omega) HG3.out.cap _ HG3.out.inv kk am HM2.out (k := 1000) (by omega)
         have h3 : (resF t (layp t (clm t 3 kk).1 had.sum) kk am).1.length = t.length := (Pure.resF_good HG2.out kk am).inv.len
         have h4 : (resF (low t kk lo) (layp t (clm t 3 kk).1 had.sum) kk am).1.length = t.length := (Pure.resF_good HG3.out kk am).inv.len.trans HL4.out
         generalize resF t (layp t (clm t 3 kk).1 had.sum) kk am = RR at hlw h1 h3
         generalize resF (low t kk lo) (layp t (clm t 3 kk).1 had.sum) kk am = RQ at hlw h2 h4
         obtain ⟨us1, c1, d1⟩ := RR
         obtain ⟨us2, cd2, d2⟩ := RQ
         simp only at hlw h3 h4
         have HRF := Aside0.mk h1
         have HRG := Aside0.mk h2
         have HN1 := Aside0.mk h3
         have HN2 := Aside0.mk h4
         have HLW := Aside0.mk hlw
         clear h1 h2 h3 h4 hlw
         have T := HT.out
         clear HT
         obtain ⟨a1, e1, x9⟩ := Kd.at_int (Kd.C_below HR2.out T.bel) i HI2.out.2.1 k1
         cases e1
         rw [HAM.out] at x9
         go_upto_region 24 with (fail)
         clear x9
         have HT := Aside0.mk T
         clear T
         go_cut [25, 26, 27] (fun v25 v26 v27 wc => ∃ (gx : Nat) (uA uB : Option Addr) (uc ud : Nat), v25 = .pointer (some ⟨gx, 0, none⟩) ∧ v26 = .int .i64 c1 ∧ v27 = .int .i64 d1 ∧ Aside0 (Cfg w wc (⟨gx, 61, #[(.slice uA t.length uc), (.slice uB t.length ud)]⟩ :: [⟨g22, 61, #[(.slice eA t.length ec), (.slice eB t.length ed)]⟩, ⟨g12, 58, #[(.slice qA t.length qc), (.slice qB t.length qd)]⟩, ⟨g10, 61, #[(.slice sA t.length sc), (.slice sB t.length sd)]⟩, ⟨g4, 86, #[.int .i64 lf, .int .i64 cp]⟩]) (.slice hA had.length hcap) had [Row.a (.slice uA t.length uc) (t.map cv), Row.c (.slice uB t.length ud) us1, Row.a (.slice eA t.length ec) ((low t kk lo).map cv), Row.c (.slice eB t.length ed) (layp t (clm t 3 kk).1 had.sum), Row.a (.slice sA t.length sc) (t.map cv), Row.c (.slice sB t.length sd) (layp t (clm t 3 kk).1 had.sum), Row.b (.slice (some a3) t.length nc) t, Row.b (.slice qA t.length qc) t, Row.c (.slice qB t.length qd) (layp t (clm t 3 kk).1 0)]))
         case first =>
          have T := HT.out
          clear HT
          have T0 := T.drew
          clear T
          refine wp_region_par (fun w' => Cfg w w' [⟨g22, 61, #[(.slice eA t.length ec), (.slice eB t.length ed)]⟩, ⟨g12, 58, #[(.slice qA t.length qc), (.slice qB t.length qd)]⟩, ⟨g10, 61, #[(.slice sA t.length sc), (.slice sB t.length sd)]⟩, ⟨g4, 86, #[.int .i64 lf, .int .i64 cp]⟩] (.slice hA had.length hcap) had []) [6, 11, 12] [0, 1, 2, 3, 4, 5, 6, 7, 8, 9, 10, 11, 12, 13, 14] (by kernel_rfl) (by kernel_rfl) (by kernel_rfl) (by kernel_rfl) (by kernel_rfl) (fun _ _ d _ _ h => by cases d <;> exact h) ?h0 ?hseq
          case h0 => exact T0.keep (fun r hr => by cases hr)
          case hseq =>
           generalize World.drew wr = wz at T0 ⊢
           (refine par_val (v := ?_) (a' := ?_) rfl ?_ ?_ ?_ ?_; rotate_left 2; (· rfl); (· intro w0 hS; have x0 := (hS.cell 2 rfl 0).trans rfl; have x1 := (hS.cell 2 rfl 1).trans rfl; go_simp; first | done | with_reducible rfl); (· go_simp; first | done | with_reducible rfl))
           (refine par_val (v := ?_) (a' := ?_) rfl ?_ ?_ ?_ ?_; rotate_left 2; (· rfl); (· intro w0 hS; go_simp; first | done | with_reducible rfl); (· go_simp; first | done | with_reducible rfl))
           (refine par_val (v := ?_) (a' := ?_) rfl ?_ ?_ ?_ ?_; rotate_left 2; (· rfl); (· intro w0 hS; go_simp; first | done | with_reducible rfl); (· go_simp; first | done | with_reducible rfl))
           (refine par_val (v := ?_) (a' := ?_) rfl ?_ ?_ ?_ ?_; rotate_left 2; (· rfl); (· intro w0 hS; go_simp; first | done | with_reducible rfl); (· go_simp; first | done | with_reducible rfl))
           (refine par_val (v := ?_) (a' := ?_) rfl ?_ ?_ ?_ ?_; rotate_left 2; (· rfl); (· intro w0 hS; go_simp; first | done | with_reducible rfl); (· go_simp; first | done | with_reducible rfl))
           (refine par_val (v := ?_) (a' := ?_) rfl ?_ ?_ ?_ ?_; rotate_left 2; (· rfl); (· intro w0 hS; obtain ⟨ad, e, x⟩ := Kd.at_int (Kd.C_below HR2.out hS.bel) i HI2.out.2.1 k1; cases e; rw [HAM.out] at x; go_simp; first | done | with_reducible rfl); (· go_simp; first | done | with_reducible rfl))
           refine par_each [6, 11] (by kernel_rfl) (by kernel_rfl) ?_
           refine each_op (l' := [7, 8, 9, 10, 11, 12, 13, 14]) rfl (by rfl) (by kernel_rfl) (fun K hK => ?_) ?_
           · go_simp
             go_at_call 48
             refine (reserve_ 1000 kk am T0 (show Row.a (.slice sA t.length sc) (t.map cv) ∈ _ by simp) (show Row.c (.slice sB t.length sd) (layp t (clm t 3 kk).1 had.sum) ∈ _ by simp) HRF.out).mono ?_
             rintro e wk ⟨u0, u1, rfl, TK⟩
             clear T0
             obtain ⟨uA, uc, rfl⟩ := va' TK (show Row.a u0 (t.map cv) ∈ _ by simp)
             obtain ⟨uB, ud, rfl⟩ := vc3 TK (show Row.c u1 us1 ∈ _ by simp) HN1.out
             refine hK _ _ ((TK).keep (fun r hr => by cases hr)) ?_
             clear hK K
             (refine par_val (v := ?_) (a' := ?_) rfl ?_ ?_ ?_ ?_; rotate_left 2; (· rfl); (· intro w0 hS; go_simp; first | done | with_reducible rfl); (· go_simp; first | done | with_reducible rfl))
             (refine par_val (v := ?_) (a' := ?_) rfl ?_ ?_ ?_ ?_; rotate_left 2; (· rfl); (· intro w0 hS; go_simp; first | done | with_reducible rfl); (· go_simp; first | done | with_reducible rfl))
             (refine par_val (v := ?_) (a' := ?_) rfl ?_ ?_ ?_ ?_; rotate_left 2; (· rfl); (· intro w0 hS; go_simp; first | done | with_reducible rfl); (· go_simp; first | done | with_reducible rfl))
             (refine par_val (v := ?_) (a' := ?_) rfl ?_ ?_ ?_ ?_; rotate_left 2; (· rfl); (· intro w0 hS; go_simp; first | done | with_reducible rfl); (· go_simp; first | done | with_reducible rfl))
             refine par_each [11] (by kernel_rfl) (by kernel_rfl) ?_
             refine each_op (l' := [12, 13, 14]) rfl (by rfl) (by kernel_rfl) (fun K hK => ?_) ?_
             · go_simp
               have TA := TK.alloc #[.slice none 0 0, .slice none 0 0] 61
               refine hK _ _ ((TA.drop 1).keep (fun r hr => by cases hr)) ?_
               clear hK K TK
               generalize wk.alloc (.cells #[.slice none 0 0, .slice none 0 0] 61) = wa at TA ⊢
               generalize wk.heap.size = gx at TA ⊢
               refine par_each [12] (by kernel_rfl) (by kernel_rfl) ?_
               refine each_op (l' := [13, 14]) rfl (by rfl) (by kernel_rfl) (fun K hK => ?_) ?_
               · have m0 := (TA.cell 0 rfl 0).trans rfl
                 have l0 := TA.froz 0 rfl 0
                 have m1 := (TA.cell 0 rfl 1).trans rfl
                 have l1 := TA.froz 0 rfl 1
                 go_simp
                 have TS : Cfg w _ (⟨gx, 61, #[(.slice uA t.length uc), (.slice uB t.length ud)]⟩ :: [⟨g22, 61, #[(.slice eA t.length ec), (.slice eB t.length ed)]⟩, ⟨g12, 58, #[(.slice qA t.length qc), (.slice qB t.length qd)]⟩, ⟨g10, 61, #[(.slice sA t.length sc), (.slice sB t.length sd)]⟩, ⟨g4, 86, #[.int .i64 lf, .int .i64 cp]⟩]) (.slice hA had.length hcap) had _ := (TA.set 0 rfl 0 (.slice uA t.length uc) rfl).set 0 rfl 1 (.slice uB t.length ud) rfl
                 clear m0 m1 l0 l1
                 refine hK _ _ ((TS.drop 1).keep (fun r hr => by cases hr)) ?_
                 clear hK K TA
                 (refine par_val (v := ?_) (a' := ?_) rfl ?_ ?_ ?_ ?_; rotate_left 2; (· rfl); (· intro w0 hS; go_simp; first | done | with_reducible rfl); (· go_simp; first | done | with_reducible rfl))
                 (refine par_val (v := ?_) (a' := ?_) rfl ?_ ?_ ?_ ?_; rotate_left 2; (· rfl); (· intro w0 hS; go_simp; first | done | with_reducible rfl); (· go_simp; first | done | with_reducible rfl))
                 refine par_nil ?_
                 go_wp2_with (fail)
                 go_meet
                 case rel => exact ⟨gx, uA, uB, uc, ud, rfl, rfl, rfl, ⟨TS.keep (R' := [Row.a (.slice uA t.length uc) (t.map cv), Row.c (.slice uB t.length ud) us1, Row.a (.slice eA t.length ec) ((low t kk lo).map cv), Row.c (.slice eB t.length ed) (layp t (clm t 3 kk).1 had.sum), Row.a (.slice sA t.length sc) (t.map cv), Row.c (.slice sB t.length sd) (layp t (clm t 3 kk).1 had.sum), Row.b (.slice (some a3) t.length nc) t, Row.b (.slice qA t.length qc) t, Row.c (.slice qB t.length qd) (layp t (clm t 3 kk).1 0)]) (fun r hr => hr)⟩⟩
               exact each_nil
             exact each_nil
           refine each_op (l' := [6, 7, 8, 9, 10, 12, 13, 14]) rfl (by rfl) (by kernel_rfl) (fun K hK => ?_) ?_
           · go_simp
             have TA := T0.alloc #[.slice none 0 0, .slice none 0 0] 61
             refine hK _ _ ((TA.drop 1).keep (fun r hr => by cases hr)) ?_
             clear hK K T0
             generalize wz.alloc (.cells #[.slice none 0 0, .slice none 0 0] 61) = wa at TA ⊢
             generalize wz.heap.size = gx at TA ⊢
             refine par_each [6] (by kernel_rfl) (by kernel_rfl) ?_
             refine each_op (l' := [7, 8, 9, 10, 12, 13, 14]) rfl (by rfl) (by kernel_rfl) (fun K hK => ?_) ?_
             · go_simp
               go_at_call 48
               refine (reserve_ 1000 kk am TA (show Row.a (.slice sA t.length sc) (t.map cv) ∈ _ by simp) (show Row.c (.slice sB t.length sd) (layp t (clm t 3 kk).1 had.sum) ∈ _ by simp) HRF.out).mono ?_
               rintro e wk ⟨u0, u1, rfl, TK⟩
               clear TA
               obtain ⟨uA, uc, rfl⟩ := va' TK (show Row.a u0 (t.map cv) ∈ _ by simp)
               obtain ⟨uB, ud, rfl⟩ := vc3 TK (show Row.c u1 us1 ∈ _ by simp) HN1.out
               refine hK _ _ ((TK.drop 1).keep (fun r hr => by cases hr)) ?_
               clear hK K
               (refine par_val (v := ?_) (a' := ?_) rfl ?_ ?_ ?_ ?_; rotate_left 2; (· rfl); (· intro w0 hS; go_simp; first | done | with_reducible rfl); (· go_simp; first | done | with_reducible rfl))
               (refine par_val (v := ?_) (a' := ?_) rfl ?_ ?_ ?_ ?_; rotate_left 2; (· rfl); (· intro w0 hS; go_simp; first | done | with_reducible rfl); (· go_simp; first | done | with_reducible rfl))
               (refine par_val (v := ?_) (a' := ?_) rfl ?_ ?_ ?_ ?_; rotate_left 2; (· rfl); (· intro w0 hS; go_simp; first | done | with_reducible rfl); (· go_simp; first | done | with_reducible rfl))
               (refine par_val (v := ?_) (a' := ?_) rfl ?_ ?_ ?_ ?_; rotate_left 2; (· rfl); (· intro w0 hS; go_simp; first | done | with_reducible rfl); (· go_simp; first | done | with_reducible rfl))
               refine par_each [12] (by kernel_rfl) (by kernel_rfl) ?_
               refine each_op (l' := [13, 14]) rfl (by rfl) (by kernel_rfl) (fun K hK => ?_) ?_
               · have m0 := (TK.cell 0 rfl 0).trans rfl
                 have l0 := TK.froz 0 rfl 0
                 have m1 := (TK.cell 0 rfl 1).trans rfl
                 have l1 := TK.froz 0 rfl 1
                 go_simp
                 have TS : Cfg w _ (⟨gx, 61, #[(.slice uA t.length uc), (.slice uB t.length ud)]⟩ :: [⟨g22, 61, #[(.slice eA t.length ec), (.slice eB t.length ed)]⟩, ⟨g12, 58, #[(.slice qA t.length qc), (.slice qB t.length qd)]⟩, ⟨g10, 61, #[(.slice sA t.length sc), (.slice sB t.length sd)]⟩, ⟨g4, 86, #[.int .i64 lf, .int .i64 cp]⟩]) (.slice hA had.length hcap) had _ := (TK.set 0 rfl 0 (.slice uA t.length uc) rfl).set 0 rfl 1 (.slice uB t.length ud) rfl
                 clear m0 m1 l0 l1
                 refine hK _ _ ((TS.drop 1).keep (fun r hr => by cases hr)) ?_
                 clear hK K TK
                 (refine par_val (v := ?_) (a' := ?_) rfl ?_ ?_ ?_ ?_; rotate_left 2; (· rfl); (· intro w0 hS; go_simp; first | done | with_reducible rfl); (· go_simp; first | done | with_reducible rfl))
                 (refine par_val (v := ?_) (a' := ?_) rfl ?_ ?_ ?_ ?_; rotate_left 2; (· rfl); (· intro w0 hS; go_simp; first | done | with_reducible rfl); (· go_simp; first | done | with_reducible rfl))
                 refine par_nil ?_
                 go_wp2_with (fail)
                 go_meet
                 case rel => exact ⟨gx, uA, uB, uc, ud, rfl, rfl, rfl, ⟨TS.keep (R' := [Row.a (.slice uA t.length uc) (t.map cv), Row.c (.slice uB t.length ud) us1, Row.a (.slice eA t.length ec) ((low t kk lo).map cv), Row.c (.slice eB t.length ed) (layp t (clm t 3 kk).1 had.sum), Row.a (.slice sA t.length sc) (t.map cv), Row.c (.slice sB t.length sd) (layp t (clm t 3 kk).1 had.sum), Row.b (.slice (some a3) t.length nc) t, Row.b (.slice qA t.length qc) t, Row.c (.slice qB t.length qd) (layp t (clm t 3 kk).1 0)]) (fun r hr => hr)⟩⟩
               exact each_nil
             exact each_nil
           exact each_nil
         case rest =>
          obtain ⟨g25, xA, xB, xc, xd, rfl, rfl, rfl, HT2⟩ := hcut
          clear HT
          have T := HT2.out
          clear HT2
          obtain ⟨a1, e1, x9⟩ := Kd.at_int (Kd.C_below HR2.out T.bel) i HI2.out.2.1 k1
          cases e1
          rw [HAM.out] at x9
          go_upto_region 25 with (fail)
          clear x9
          have HT := Aside0.mk T
          clear T
          go_cut [28, 29, 30] (fun v28 v29 v30 wc => ∃ (gx : Nat) (uA uB : Option Addr) (uc ud : Nat), v28 = .pointer (some ⟨gx, 0, none⟩) ∧ v29 = .int .i64 cd2 ∧ v30 = .int .i64 d2 ∧ Aside0 (Cfg w wc (⟨gx, 61, #[(.slice uA t.length uc), (.slice uB t.length ud)]⟩ :: [⟨g25, 61, #[(.slice xA t.length xc), (.slice xB t.length xd)]⟩, ⟨g22, 61, #[(.slice eA t.length ec), (.slice eB t.length ed)]⟩, ⟨g12, 58, #[(.slice qA t.length qc), (.slice qB t.length qd)]⟩, ⟨g10, 61, #[(.slice sA t.length sc), (.slice sB t.length sd)]⟩, ⟨g4, 86, #[.int .i64 lf, .int .i64 cp]⟩]) (.slice hA had.length hcap) had [Row.a (.slice uA t.length uc) ((low t kk lo).map cv), Row.c (.slice uB t.length ud) us2, Row.a (.slice xA t.length xc) (t.map cv), Row.c (.slice xB t.length xd) us1, Row.a (.slice eA t.length ec) ((low t kk lo).map cv), Row.c (.slice eB t.length ed) (layp t (clm t 3 kk).1 had.sum), Row.a (.slice sA t.length sc) (t.map cv), Row.c (.slice sB t.length sd) (layp t (clm t 3 kk).1 had.sum), Row.b (.slice (some a3) t.length nc) t, Row.b (.slice qA t.length qc) t, Row.c (.slice qB t.length qd) (layp t (clm t 3 kk).1 0)]))
          case first =>
           have T := HT.out
           clear HT
           have T0 := T.drew
           clear T
           refine wp_region_par (fun w' => Cfg w w' [⟨g25, 61, #[(.slice xA t.length xc), (.slice xB t.length xd)]⟩, ⟨g22, 61, #[(.slice eA t.length ec), (.slice eB t.length ed)]⟩, ⟨g12, 58, #[(.slice qA t.length qc), (.slice qB t.length qd)]⟩, ⟨g10, 61, #[(.slice sA t.length sc), (.slice sB t.length sd)]⟩, ⟨g4, 86, #[.int .i64 lf, .int .i64 cp]⟩] (.slice hA had.length hcap) had []) [6, 11, 12] [0, 1, 2, 3, 4, 5, 6, 7, 8, 9, 10, 11, 12, 13, 14] (by kernel_rfl) (by kernel_rfl) (by kernel_rfl) (by kernel_rfl) (by kernel_rfl) (fun _ _ d _ _ h => by cases d <;> exact h) ?h0 ?hseq
           case h0 => exact T0.keep (fun r hr => by cases hr)
           case hseq =>
            generalize World.drew wc = wz at T0 ⊢
            (refine par_val (v := ?_) (a' := ?_) rfl ?_ ?_ ?_ ?_; rotate_left 2; (· rfl); (· intro w0 hS; have x0 := (hS.cell 1 rfl 0).trans rfl; have x1 := (hS.cell 1 rfl 1).trans rfl; go_simp; first | done | with_reducible rfl); (· go_simp; first | done | with_reducible rfl))
            (refine par_val (v := ?_) (a' := ?_) rfl ?_ ?_ ?_ ?_; rotate_left 2; (· rfl); (· intro w0 hS; go_simp; first | done | with_reducible rfl); (· go_simp; first | done | with_reducible rfl))
            (refine par_val (v := ?_) (a' := ?_) rfl ?_ ?_ ?_ ?_; rotate_left 2; (· rfl); (· intro w0 hS; go_simp; first | done | with_reducible rfl); (· go_simp; first | done | with_reducible rfl))
            (refine par_val (v := ?_) (a' := ?_) rfl ?_ ?_ ?_ ?_; rotate_left 2; (· rfl); (· intro w0 hS; go_simp; first | done | with_reducible rfl); (· go_simp; first | done | with_reducible rfl))
            (refine par_val (v := ?_) (a' := ?_) rfl ?_ ?_ ?_ ?_; rotate_left 2; (· rfl); (· intro w0 hS; go_simp; first | done | with_reducible rfl); (· go_simp; first | done | with_reducible rfl))
            (refine par_val (v := ?_) (a' := ?_) rfl ?_ ?_ ?_ ?_; rotate_left 2; (· rfl); (· intro w0 hS; obtain ⟨ad, e, x⟩ := Kd.at_int (Kd.C_below HR2.out hS.bel) i HI2.out.2.1 k1; cases e; rw [HAM.out] at x; go_simp; first | done | with_reducible rfl); (· go_simp; first | done | with_reducible rfl))
            refine par_each [6, 11] (by kernel_rfl) (by kernel_rfl) ?_
            refine each_op (l' := [7, 8, 9, 10, 11, 12, 13, 14]) rfl (by rfl) (by kernel_rfl) (fun K hK => ?_) ?_
            · go_simp
              go_at_call 48
              refine (reserve_ 1000 kk am T0 (show Row.a (.slice eA t.length ec) ((low t kk lo).map cv) ∈ _ by simp) (show Row.c (.slice eB t.length ed) (layp t (clm t 3 kk).1 had.sum) ∈ _ by simp) HRG.out).mono ?_
              rintro e wk ⟨u0, u1, rfl, TK⟩
              clear T0
              obtain ⟨uA, uc, rfl⟩ := va2 TK (show Row.a u0 ((low t kk lo).map cv) ∈ _ by simp) HL4.out
              obtain ⟨uB, ud, rfl⟩ := vc3 TK (show Row.c u1 us2 ∈ _ by simp) HN2.out
              refine hK _ _ ((TK).keep (fun r hr => by cases hr)) ?_
              clear hK K
              (refine par_val (v := ?_) (a' := ?_) rfl ?_ ?_ ?_ ?_; rotate_left 2; (· rfl); (· intro w0 hS; go_simp; first | done | with_reducible rfl); (· go_simp; first | done | with_reducible rfl))
              (refine par_val (v := ?_) (a' := ?_) rfl ?_ ?_ ?_ ?_; rotate_left 2; (· rfl); (· intro w0 hS; go_simp; first | done | with_reducible rfl); (· go_simp; first | done | with_reducible rfl))
              (refine par_val (v := ?_) (a' := ?_) rfl ?_ ?_ ?_ ?_; rotate_left 2; (· rfl); (· intro w0 hS; go_simp; first | done | with_reducible rfl); (· go_simp; first | done | with_reducible rfl))
              (refine par_val (v := ?_) (a' := ?_) rfl ?_ ?_ ?_ ?_; rotate_left 2; (· rfl); (· intro w0 hS; go_simp; first | done | with_reducible rfl); (· go_simp; first | done | with_reducible rfl))
              refine par_each [11] (by kernel_rfl) (by kernel_rfl) ?_
              refine each_op (l' := [12, 13, 14]) rfl (by rfl) (by kernel_rfl) (fun K hK => ?_) ?_
              · go_simp
                have TA := TK.alloc #[.slice none 0 0, .slice none 0 0] 61
                refine hK _ _ ((TA.drop 1).keep (fun r hr => by cases hr)) ?_
                clear hK K TK
                generalize wk.alloc (.cells #[.slice none 0 0, .slice none 0 0] 61) = wa at TA ⊢
                generalize wk.heap.size = gx at TA ⊢
                refine par_each [12] (by kernel_rfl) (by kernel_rfl) ?_
                refine each_op (l' := [13, 14]) rfl (by rfl) (by kernel_rfl) (fun K hK => ?_) ?_
                · have m0 := (TA.cell 0 rfl 0).trans rfl
                  have l0 := TA.froz 0 rfl 0
                  have m1 := (TA.cell 0 rfl 1).trans rfl
                  have l1 := TA.froz 0 rfl 1
                  go_simp
                  have TS : Cfg w _ (⟨gx, 61, #[(.slice uA t.length uc), (.slice uB t.length ud)]⟩ :: [⟨g25, 61, #[(.slice xA t.length xc), (.slice xB t.length xd)]⟩, ⟨g22, 61, #[(.slice eA t.length ec), (.slice eB t.length ed)]⟩, ⟨g12, 58, #[(.slice qA t.length qc), (.slice qB t.length qd)]⟩, ⟨g10, 61, #[(.slice sA t.length sc), (.slice sB t.length sd)]⟩, ⟨g4, 86, #[.int .i64 lf, .int .i64 cp]⟩]) (.slice hA had.length hcap) had _ := (TA.set 0 rfl 0 (.slice uA t.length uc) rfl).set 0 rfl 1 (.slice uB t.length ud) rfl
                  clear m0 m1 l0 l1
                  refine hK _ _ ((TS.drop 1).keep (fun r hr => by cases hr)) ?_
                  clear hK K TA
                  (refine par_val (v := ?_) (a' := ?_) rfl ?_ ?_ ?_ ?_; rotate_left 2; (· rfl); (· intro w0 hS; go_simp; first | done | with_reducible rfl); (· go_simp; first | done | with_reducible rfl))
                  (refine par_val (v := ?_) (a' := ?_) rfl ?_ ?_ ?_ ?_; rotate_left 2; (· rfl); (· intro w0 hS; go_simp; first | done | with_reducible rfl); (· go_simp; first | done | with_reducible rfl))
                  refine par_nil ?_
                  go_wp2_with (fail)
                  go_meet
                  case rel => exact ⟨gx, uA, uB, uc, ud, rfl, rfl, rfl, ⟨TS.keep (R' := [Row.a (.slice uA t.length uc) ((low t kk lo).map cv), Row.c (.slice uB t.length ud) us2, Row.a (.slice xA t.length xc) (t.map cv), Row.c (.slice xB t.length xd) us1, Row.a (.slice eA t.length ec) ((low t kk lo).map cv), Row.c (.slice eB t.length ed) (layp t (clm t 3 kk).1 had.sum), Row.a (.slice sA t.length sc) (t.map cv), Row.c (.slice sB t.length sd) (layp t (clm t 3 kk).1 had.sum), Row.b (.slice (some a3) t.length nc) t, Row.b (.slice qA t.length qc) t, Row.c (.slice qB t.length qd) (layp t (clm t 3 kk).1 0)]) (fun r hr => hr)⟩⟩
                exact each_nil
              exact each_nil
            refine each_op (l' := [6, 7, 8, 9, 10, 12, 13, 14]) rfl (by rfl) (by kernel_rfl) (fun K hK => ?_) ?_
            · go_simp
              have TA := T0.alloc #[.slice none 0 0, .slice none 0 0] 61
              refine hK _ _ ((TA.drop 1).keep (fun r hr => by cases hr)) ?_
              clear hK K T0
              generalize wz.alloc (.cells #[.slice none 0 0, .slice none 0 0] 61) = wa at TA ⊢
              generalize wz.heap.size = gx at TA ⊢
              refine par_each [6] (by kernel_rfl) (by kernel_rfl) ?_
              refine each_op (l' := [7, 8, 9, 10, 12, 13, 14]) rfl (by rfl) (by kernel_rfl) (fun K hK => ?_) ?_
              · go_simp
                go_at_call 48
                refine (reserve_ 1000 kk am TA (show Row.a (.slice eA t.length ec) ((low t kk lo).map cv) ∈ _ by simp) (show Row.c (.slice eB t.length ed) (layp t (clm t 3 kk).1 had.sum) ∈ _ by simp) HRG.out).mono ?_
                rintro e wk ⟨u0, u1, rfl, TK⟩
                clear TA
                obtain ⟨uA, uc, rfl⟩ := va2 TK (show Row.a u0 ((low t kk lo).map cv) ∈ _ by simp) HL4.out
                obtain ⟨uB, ud, rfl⟩ := vc3 TK (show Row.c u1 us2 ∈ _ by simp) HN2.out
                refine hK _ _ ((TK.drop 1).keep (fun r hr => by cases hr)) ?_
                clear hK K
                (refine par_val (v := ?_) (a' := ?_) rfl ?_ ?_ ?_ ?_; rotate_left 2; (· rfl); (· intro w0 hS; go_simp; first | done | with_reducible rfl); (· go_simp; first | done | with_reducible rfl))
                (refine par_val (v := ?_) (a' := ?_) rfl ?_ ?_ ?_ ?_; rotate_left 2; (· rfl); (· intro w0 hS; go_simp; first | done | with_reducible rfl); (· go_simp; first | done | with_reducible rfl))
                (refine par_val (v := ?_) (a' := ?_) rfl ?_ ?_ ?_ ?_; rotate_left 2; (· rfl); (· intro w0 hS; go_simp; first | done | with_reducible rfl); (· go_simp; first | done | with_reducible rfl))
                (refine par_val (v := ?_) (a' := ?_) rfl ?_ ?_ ?_ ?_; rotate_left 2; (· rfl); (· intro w0 hS; go_simp; first | done | with_reducible rfl); (· go_simp; first | done | with_reducible rfl))
                refine par_each [12] (by kernel_rfl) (by kernel_rfl) ?_
                refine each_op (l' := [13, 14]) rfl (by rfl) (by kernel_rfl) (fun K hK => ?_) ?_
                · have m0 := (TK.cell 0 rfl 0).trans rfl
                  have l0 := TK.froz 0 rfl 0
                  have m1 := (TK.cell 0 rfl 1).trans rfl
                  have l1 := TK.froz 0 rfl 1
                  go_simp
                  have TS : Cfg w _ (⟨gx, 61, #[(.slice uA t.length uc), (.slice uB t.length ud)]⟩ :: [⟨g25, 61, #[(.slice xA t.length xc), (.slice xB t.length xd)]⟩, ⟨g22, 61, #[(.slice eA t.length ec), (.slice eB t.length ed)]⟩, ⟨g12, 58, #[(.slice qA t.length qc), (.slice qB t.length qd)]⟩, ⟨g10, 61, #[(.slice sA t.length sc), (.slice sB t.length sd)]⟩, ⟨g4, 86, #[.int .i64 lf, .int .i64 cp]⟩]) (.slice hA had.length hcap) had _ := (TK.set 0 rfl 0 (.slice uA t.length uc) rfl).set 0 rfl 1 (.slice uB t.length ud) rfl
                  clear m0 m1 l0 l1
                  refine hK _ _ ((TS.drop 1).keep (fun r hr => by cases hr)) ?_
                  clear hK K TK
                  (refine par_val (v := ?_) (a' := ?_) rfl ?_ ?_ ?_ ?_; rotate_left 2; (· rfl); (· intro w0 hS; go_simp; first | done | with_reducible rfl); (· go_simp; first | done | with_reducible rfl))
                  (refine par_val (v := ?_) (a' := ?_) rfl ?_ ?_ ?_ ?_; rotate_left 2; (· rfl); (· intro w0 hS; go_simp; first | done | with_reducible rfl); (· go_simp; first | done | with_reducible rfl))
                  refine par_nil ?_
                  go_wp2_with (fail)
                  go_meet
                  case rel => exact ⟨gx, uA, uB, uc, ud, rfl, rfl, rfl, ⟨TS.keep (R' := [Row.a (.slice uA t.length uc) ((low t kk lo).map cv), Row.c (.slice uB t.length ud) us2, Row.a (.slice xA t.length xc) (t.map cv), Row.c (.slice xB t.length xd) us1, Row.a (.slice eA t.length ec) ((low t kk lo).map cv), Row.c (.slice eB t.length ed) (layp t (clm t 3 kk).1 had.sum), Row.a (.slice sA t.length sc) (t.map cv), Row.c (.slice sB t.length sd) (layp t (clm t 3 kk).1 had.sum), Row.b (.slice (some a3) t.length nc) t, Row.b (.slice qA t.length qc) t, Row.c (.slice qB t.length qd) (layp t (clm t 3 kk).1 0)]) (fun r hr => hr)⟩⟩
                exact each_nil
              exact each_nil
            exact each_nil
          case rest =>
           obtain ⟨g28, yA, yB, yc, yd, rfl, rfl, rfl, HT2⟩ := hcut
           clear HT
           have T := HT2.out
           clear HT2
           by_cases hc1 : c1 = 0
           · have z1 : (c1 != 0) = false := bne_eq_false_iff_eq.mpr hc1
             clear hc1
             go_wp2_with (fail)
             go_roundg ((l2.length : Int) - i).toNat
             case measure => omega
             case rel => exact ⟨i + 1, rfl, ⟨by have := HI2.out; omega⟩, ⟨(T.drop 2).keep (R' := [Row.a (.slice eA t.length ec) ((low t kk lo).map cv), Row.c (.slice eB t.length ed) (layp t (clm t 3 kk).1 had.sum), Row.a (.slice sA t.length sc) (t.map cv), Row.c (.slice sB t.length sd) (layp t (clm t 3 kk).1 had.sum), Row.b (.slice (some a3) t.length nc) t, Row.b (.slice qA t.length qc) t, Row.c (.slice qB t.length qd) (layp t (clm t 3 kk).1 0)]) (fun r hr => List.mem_cons_of_mem _ (List.mem_cons_of_mem _ (List.mem_cons_of_mem _ (List.mem_cons_of_mem _ hr))))⟩⟩
           · have z1 : (c1 != 0) = true := bne_iff_ne.mpr hc1
             have z2 : (cd2 == 0) = false := beq_eq_false_iff_ne.mpr (fun h => hc1 (HLW.out h))
             clear hc1
             go_wp2_with (fail)
             go_roundg ((l2.length : Int) - i).toNat
             case measure => omega
             case rel => exact ⟨i + 1, rfl, ⟨by have := HI2.out; omega⟩, ⟨(T.drop 2).keep (R' := [Row.a (.slice eA t.length ec) ((low t kk lo).map cv), Row.c (.slice eB t.length ed) (layp t (clm t 3 kk).1 had.sum), Row.a (.slice sA t.length sc) (t.map cv), Row.c (.slice sB t.length sd) (layp t (clm t 3 kk).1 had.sum), Row.b (.slice (some a3) t.length nc) t, Row.b (.slice qA t.length qc) t, Row.c (.slice qB t.length qd) (layp t (clm t 3 kk).1 0)]) (fun r hr => List.mem_cons_of_mem _ (List.mem_cons_of_mem _ (List.mem_cons_of_mem _ (List.mem_cons_of_mem _ hr))))⟩⟩
       · have c9b := decide_eq_false k2
         go_wp2_with (fail)
         go_meet
         case rel => exact HT
     · have c9b := decide_eq_false k1
       go_wp2_with (fail)
       go_meet
       case rel => exact HT
   case rest =>
    have T := hcut.out
    clear hcut HT
    go_upto_block 4 with (fail)
    have HT := Aside0.mk T
    clear T
    go_cut [31] (fun v31 wc => ∃ (eA eB : Option Addr) (ec ed : Nat), Aside0 (Cfg w wc [⟨g22, 61, #[(.slice eA t.length ec), (.slice eB t.length ed)]⟩, ⟨g12, 58, #[(.slice qA t.length qc), (.slice qB t.length qd)]⟩, ⟨g10, 61, #[(.slice sA t.length sc), (.slice sB t.length sd)]⟩, ⟨g4, 86, #[.int .i64 lf, .int .i64 cp]⟩] (.slice hA had.length hcap) had [Row.a (.slice eA t.length ec) ((low t kk lo).map cv), Row.c (.slice eB t.length ed) (layp t (clm t 3 kk).1 0), Row.b (.slice (some a3) t.length nc) t, Row.b (.slice qA t.length qc) t, Row.c (.slice qB t.length qd) (layp t (clm t 3 kk).1 0)]) ∧ Aside0 (Pure.Good (low t kk lo) (layp t (clm t 3 kk).1 0)))
    case first =>
     have T := HT.out.keep (R' := [Row.a (.slice eA t.length ec) ((low t kk lo).map cv), Row.c (.slice eB t.length ed) (layp t (clm t 3 kk).1 had.sum), Row.b (.slice (some a3) t.length nc) t, Row.b (.slice qA t.length qc) t, Row.c (.slice qB t.length qd) (layp t (clm t 3 kk).1 0)]) (fun r hr => by simp only [List.mem_cons, List.not_mem_nil, or_false] at hr ⊢; rcases hr with rfl | rfl | rfl | rfl | rfl <;> simp)
     clear HT
     go_wp2_with (fail)
     go_loopg [31] (had.length + 1) (fun kq v31 w' => ∃ (i : Int) (eA eB : Option Addr) (ec ed : Nat), v31 = .int .i64 i ∧ Aside0 ((had.length : Int) + 1 ≤ kq + i ∧ 0 ≤ i ∧ i ≤ had.length) ∧ Aside0 (Pure.Good (low t kk lo) (layp t (clm t 3 kk).1 (had.drop i.toNat).sum)) ∧ Aside0 (Cfg w w' [⟨g22, 61, #[(.slice eA t.length ec), (.slice eB t.length ed)]⟩, ⟨g12, 58, #[(.slice qA t.length qc), (.slice qB t.length qd)]⟩, ⟨g10, 61, #[(.slice sA t.length sc), (.slice sB t.length sd)]⟩, ⟨g4, 86, #[.int .i64 lf, .int .i64 cp]⟩] (.slice hA had.length hcap) had [Row.a (.slice eA t.length ec) ((low t kk lo).map cv), Row.c (.slice eB t.length ed) (layp t (clm t 3 kk).1 (had.drop i.toNat).sum), Row.b (.slice (some a3) t.length nc) t, Row.b (.slice qA t.length qc) t, Row.c (.slice qB t.length qd) (layp t (clm t 3 kk).1 0)]))
     case atStart => exact ⟨0, eA, eB, ec, ed, rfl, ⟨by omega⟩, HG3, ⟨T⟩⟩
     case round =>
      obtain ⟨i, eA, eB, ec, ed, rfl, HI2, HG4, HT⟩ := hrel
      clear T
      have hi := HI2.out
      by_cases k1 : i < had.length
      · have c1b := decide_eq_true k1
        have p0 := eq_true hi.2.1
        have p1 := eq_true k1
        have e9 : wrap64 (i + 1) = i + 1 := by have := HI.out.1; unfold wrap64; omega
        obtain ⟨b0, b1, b2⟩ := sum_drop had i hi.2.1 k1 HI.out.2
        generalize ham : rd had i = am at b0 b1 b2
        have HAM := Aside0.mk ham
        clear ham
        have h1 := Pure.rel_f HG4.out kk am
        have h2 := Pure.relF_good HG4.out kk am
        rw [low_rel HKK.out.1 HKK.out.2 HG4.out am b0 b1, b2] at h1 h2
        have HRF := Aside0.mk h1
        have HG5 := Aside0.mk h2
        clear h1 h2 b0 b1 b2
        have T := HT.out
        clear HT
        obtain ⟨a5, e5, x9⟩ := Kd.at_int (Kd.R_reads' T.own).2.2 i HI2.out.2.1 k1
        cases e5
        clear x9
        go_upto_region 31 with (fail)
        have HT := Aside0.mk T
        clear T
        go_cut [32, 33] (fun v32 v33 wc => ∃ (gx : Nat) (uA uB : Option Addr) (uc ud : Nat), v32 = .pointer (some ⟨gx, 0, none⟩) ∧ v33 = .bool true ∧ Aside0 (Cfg w wc (⟨gx, 61, #[(.slice uA t.length uc), (.slice uB t.length ud)]⟩ :: [⟨g22, 61, #[(.slice eA t.length ec), (.slice eB t.length ed)]⟩, ⟨g12, 58, #[(.slice qA t.length qc), (.slice qB t.length qd)]⟩, ⟨g10, 61, #[(.slice sA t.length sc), (.slice sB t.length sd)]⟩, ⟨g4, 86, #[.int .i64 lf, .int .i64 cp]⟩]) (.slice (some a5) had.length hcap) had [Row.a (.slice uA t.length uc) ((low t kk lo).map cv), Row.c (.slice uB t.length ud) (layp t (clm t 3 kk).1 (had.drop (i + 1).toNat).sum), Row.a (.slice eA t.length ec) ((low t kk lo).map cv), Row.c (.slice eB t.length ed) (layp t (clm t 3 kk).1 (had.drop i.toNat).sum), Row.b (.slice (some a3) t.length nc) t, Row.b (.slice qA t.length qc) t, Row.c (.slice qB t.length qd) (layp t (clm t 3 kk).1 0)]))
        case first =>
         have T := HT.out
         clear HT
         have T0 := T.drew
         clear T
         refine wp_region_par (fun w' => Cfg w w' [⟨g22, 61, #[(.slice eA t.length ec), (.slice eB t.length ed)]⟩, ⟨g12, 58, #[(.slice qA t.length qc), (.slice qB t.length qd)]⟩, ⟨g10, 61, #[(.slice sA t.length sc), (.slice sB t.length sd)]⟩, ⟨g4, 86, #[.int .i64 lf, .int .i64 cp]⟩] (.slice (some a5) had.length hcap) had []) [6, 10, 11] [0, 1, 2, 3, 4, 5, 6, 7, 8, 9, 10, 11, 12] (by kernel_rfl) (by kernel_rfl) (by kernel_rfl) (by kernel_rfl) (by kernel_rfl) (fun _ _ d _ _ h => by cases d <;> exact h) ?h0 ?hseq
         case h0 => exact T0.keep (fun r hr => by cases hr)
         case hseq =>
          generalize World.drew wr = wz at T0 ⊢
          (refine par_val (v := ?_) (a' := ?_) rfl ?_ ?_ ?_ ?_; rotate_left 2; (· rfl); (· intro w0 hS; have x0 := (hS.cell 0 rfl 0).trans rfl; have x1 := (hS.cell 0 rfl 1).trans rfl; go_simp; first | done | with_reducible rfl); (· go_simp; first | done | with_reducible rfl))
          (refine par_val (v := ?_) (a' := ?_) rfl ?_ ?_ ?_ ?_; rotate_left 2; (· rfl); (· intro w0 hS; go_simp; first | done | with_reducible rfl); (· go_simp; first | done | with_reducible rfl))
          (refine par_val (v := ?_) (a' := ?_) rfl ?_ ?_ ?_ ?_; rotate_left 2; (· rfl); (· intro w0 hS; go_simp; first | done | with_reducible rfl); (· go_simp; first | done | with_reducible rfl))
          (refine par_val (v := ?_) (a' := ?_) rfl ?_ ?_ ?_ ?_; rotate_left 2; (· rfl); (· intro w0 hS; go_simp; first | done | with_reducible rfl); (· go_simp; first | done | with_reducible rfl))
          (refine par_val (v := ?_) (a' := ?_) rfl ?_ ?_ ?_ ?_; rotate_left 2; (· rfl); (· intro w0 hS; go_simp; first | done | with_reducible rfl); (· go_simp; first | done | with_reducible rfl))
          (refine par_val (v := ?_) (a' := ?_) rfl ?_ ?_ ?_ ?_; rotate_left 2; (· rfl); (· intro w0 hS; obtain ⟨ad, e, x⟩ := Kd.at_int (Kd.R_reads' hS.own).2.2 i HI2.out.2.1 k1; cases e; rw [HAM.out] at x; go_simp; first | done | with_reducible rfl); (· go_simp; first | done | with_reducible rfl))
          refine par_each [6, 10] (by kernel_rfl) (by kernel_rfl) ?_
          refine each_op (l' := [7, 8, 9, 10, 11, 12]) rfl (by rfl) (by kernel_rfl) (fun K hK => ?_) ?_
          · go_simp
            go_at_call 53
            refine (release_ 1000 kk am T0 (show Row.a (.slice eA t.length ec) ((low t kk lo).map cv) ∈ _ by simp) (show Row.c (.slice eB t.length ed) (layp t (clm t 3 kk).1 (had.drop i.toNat).sum) ∈ _ by simp) HRF.out).mono ?_
            rintro e wk ⟨u0, u1, rfl, TK⟩
            clear T0
            obtain ⟨uA, uc, rfl⟩ := va2 TK (show Row.a u0 ((low t kk lo).map cv) ∈ _ by simp) HL4.out
            obtain ⟨uB, ud, rfl⟩ := vc' TK (show Row.c u1 (layp t (clm t 3 kk).1 (had.drop (i + 1).toNat).sum) ∈ _ by simp)
            refine hK _ _ ((TK).keep (fun r hr => by cases hr)) ?_
            clear hK K
            (refine par_val (v := ?_) (a' := ?_) rfl ?_ ?_ ?_ ?_; rotate_left 2; (· rfl); (· intro w0 hS; go_simp; first | done | with_reducible rfl); (· go_simp; first | done | with_reducible rfl))
            (refine par_val (v := ?_) (a' := ?_) rfl ?_ ?_ ?_ ?_; rotate_left 2; (· rfl); (· intro w0 hS; go_simp; first | done | with_reducible rfl); (· go_simp; first | done | with_reducible rfl))
            (refine par_val (v := ?_) (a' := ?_) rfl ?_ ?_ ?_ ?_; rotate_left 2; (· rfl); (· intro w0 hS; go_simp; first | done | with_reducible rfl); (· go_simp; first | done | with_reducible rfl))
            refine par_each [10] (by kernel_rfl) (by kernel_rfl) ?_
            refine each_op (l' := [11, 12]) rfl (by rfl) (by kernel_rfl) (fun K hK => ?_) ?_
            · go_simp
              have TA := TK.alloc #[.slice none 0 0, .slice none 0 0] 61
              refine hK _ _ ((TA.drop 1).keep (fun r hr => by cases hr)) ?_
              clear hK K TK
              generalize wk.alloc (.cells #[.slice none 0 0, .slice none 0 0] 61) = wa at TA ⊢
              generalize wk.heap.size = gx at TA ⊢
              refine par_each [11] (by kernel_rfl) (by kernel_rfl) ?_
              refine each_op (l' := [12]) rfl (by rfl) (by kernel_rfl) (fun K hK => ?_) ?_
              · have m0 := (TA.cell 0 rfl 0).trans rfl
                have l0 := TA.froz 0 rfl 0
                have m1 := (TA.cell 0 rfl 1).trans rfl
                have l1 := TA.froz 0 rfl 1
                go_simp
                have TS : Cfg w _ (⟨gx, 61, #[(.slice uA t.length uc), (.slice uB t.length ud)]⟩ :: [⟨g22, 61, #[(.slice eA t.length ec), (.slice eB t.length ed)]⟩, ⟨g12, 58, #[(.slice qA t.length qc), (.slice qB t.length qd)]⟩, ⟨g10, 61, #[(.slice sA t.length sc), (.slice sB t.length sd)]⟩, ⟨g4, 86, #[.int .i64 lf, .int .i64 cp]⟩]) (.slice (some a5) had.length hcap) had _ := (TA.set 0 rfl 0 (.slice uA t.length uc) rfl).set 0 rfl 1 (.slice uB t.length ud) rfl
                clear m0 m1 l0 l1
                refine hK _ _ ((TS.drop 1).keep (fun r hr => by cases hr)) ?_
                clear hK K TA
                (refine par_val (v := ?_) (a' := ?_) rfl ?_ ?_ ?_ ?_; rotate_left 2; (· rfl); (· intro w0 hS; go_simp; first | done | with_reducible rfl); (· go_simp; first | done | with_reducible rfl))
                refine par_nil ?_
                go_wp2_with (fail)
                go_meet
                case rel => exact ⟨gx, uA, uB, uc, ud, rfl, rfl, ⟨TS.keep (R' := [Row.a (.slice uA t.length uc) ((low t kk lo).map cv), Row.c (.slice uB t.length ud) (layp t (clm t 3 kk).1 (had.drop (i + 1).toNat).sum), Row.a (.slice eA t.length ec) ((low t kk lo).map cv), Row.c (.slice eB t.length ed) (layp t (clm t 3 kk).1 (had.drop i.toNat).sum), Row.b (.slice (some a3) t.length nc) t, Row.b (.slice qA t.length qc) t, Row.c (.slice qB t.length qd) (layp t (clm t 3 kk).1 0)]) (fun r hr => hr)⟩⟩
              exact each_nil
            exact each_nil
          refine each_op (l' := [6, 7, 8, 9, 11, 12]) rfl (by rfl) (by kernel_rfl) (fun K hK => ?_) ?_
          · go_simp
            have TA := T0.alloc #[.slice none 0 0, .slice none 0 0] 61
            refine hK _ _ ((TA.drop 1).keep (fun r hr => by cases hr)) ?_
            clear hK K T0
            generalize wz.alloc (.cells #[.slice none 0 0, .slice none 0 0] 61) = wa at TA ⊢
            generalize wz.heap.size = gx at TA ⊢
            refine par_each [6] (by kernel_rfl) (by kernel_rfl) ?_
            refine each_op (l' := [7, 8, 9, 11, 12]) rfl (by rfl) (by kernel_rfl) (fun K hK => ?_) ?_
            · go_simp
              go_at_call 53
              refine (release_ 1000 kk am TA (show Row.a (.slice eA t.length ec) ((low t kk lo).map cv) ∈ _ by simp) (show Row.c (.slice eB t.length ed) (layp t (clm t 3 kk).1 (had.drop i.toNat).sum) ∈ _ by simp) HRF.out).mono ?_
              rintro e wk ⟨u0, u1, rfl, TK⟩
              clear TA
              obtain ⟨uA, uc, rfl⟩ := va2 TK (show Row.a u0 ((low t kk lo).map cv) ∈ _ by simp) HL4.out
              obtain ⟨uB, ud, rfl⟩ := vc' TK (show Row.c u1 (layp t (clm t 3 kk).1 (had.drop (i + 1).toNat).sum) ∈ _ by simp)
              refine hK _ _ ((TK.drop 1).keep (fun r hr => by cases hr)) ?_
              clear hK K
              (refine par_val (v := ?_) (a' := ?_) rfl ?_ ?_ ?_ ?_; rotate_left 2; (· rfl); (· intro w0 hS; go_simp; first | done | with_reducible rfl); (· go_simp; first | done | with_reducible rfl))
              (refine par_val (v := ?_) (a' := ?_) rfl ?_ ?_ ?_ ?_; rotate_left 2; (· rfl); (· intro w0 hS; go_simp; first | done | with_reducible rfl); (· go_simp; first | done | with_reducible rfl))
              (refine par_val (v := ?_) (a' := ?_) rfl ?_ ?_ ?_ ?_; rotate_left 2; (· rfl); (· intro w0 hS; go_simp; first | done | with_reducible rfl); (· go_simp; first | done | with_reducible rfl))
              refine par_each [11] (by kernel_rfl) (by kernel_rfl) ?_
              refine each_op (l' := [12]) rfl (by rfl) (by kernel_rfl) (fun K hK => ?_) ?_
              · have m0 := (TK.cell 0 rfl 0).trans rfl
                have l0 := TK.froz 0 rfl 0
                have m1 := (TK.cell 0 rfl 1).trans rfl
                have l1 := TK.froz 0 rfl 1
                go_simp
                have TS : Cfg w _ (⟨gx, 61, #[(.slice uA t.length uc), (.slice uB t.length ud)]⟩ :: [⟨g22, 61, #[(.slice eA t.length ec), (.slice eB t.length ed)]⟩, ⟨g12, 58, #[(.slice qA t.length qc), (.slice qB t.length qd)]⟩, ⟨g10, 61, #[(.slice sA t.length sc), (.slice sB t.length sd)]⟩, ⟨g4, 86, #[.int .i64 lf, .int .i64 cp]⟩]) (.slice (some a5) had.length hcap) had _ := (TK.set 0 rfl 0 (.slice uA t.length uc) rfl).set 0 rfl 1 (.slice uB t.length ud) rfl
                clear m0 m1 l0 l1
                refine hK _ _ ((TS.drop 1).keep (fun r hr => by cases hr)) ?_
                clear hK K TK
                (refine par_val (v := ?_) (a' := ?_) rfl ?_ ?_ ?_ ?_; rotate_left 2; (· rfl); (· intro w0 hS; go_simp; first | done | with_reducible rfl); (· go_simp; first | done | with_reducible rfl))
                refine par_nil ?_
                go_wp2_with (fail)
                go_meet
                case rel => exact ⟨gx, uA, uB, uc, ud, rfl, rfl, ⟨TS.keep (R' := [Row.a (.slice uA t.length uc) ((low t kk lo).map cv), Row.c (.slice uB t.length ud) (layp t (clm t 3 kk).1 (had.drop (i + 1).toNat).sum), Row.a (.slice eA t.length ec) ((low t kk lo).map cv), Row.c (.slice eB t.length ed) (layp t (clm t 3 kk).1 (had.drop i.toNat).sum), Row.b (.slice (some a3) t.length nc) t, Row.b (.slice qA t.length qc) t, Row.c (.slice qB t.length qd) (layp t (clm t 3 kk).1 0)]) (fun r hr => hr)⟩⟩
              exact each_nil
            exact each_nil
          exact each_nil
        case rest =>
         obtain ⟨gx, uA, uB, uc, ud, rfl, rfl, HT2⟩ := hcut
         clear HT
         have T := HT2.out
         clear HT2
         have n0 := (T.cell 0 rfl 0).trans rfl
         have m0 := (T.cell 1 rfl 0).trans rfl
         have l0 := T.froz 1 rfl 0
         have n1 := (T.cell 0 rfl 1).trans rfl
         have m1 := (T.cell 1 rfl 1).trans rfl
         have l1 := T.froz 1 rfl 1
         go_wp2_with (fail)
         have T3 : Cfg w _ [⟨gx, 61, #[(.slice uA t.length uc), (.slice uB t.length ud)]⟩, ⟨g22, 61, #[(.slice uA t.length uc), (.slice uB t.length ud)]⟩, ⟨g12, 58, #[(.slice qA t.length qc), (.slice qB t.length qd)]⟩, ⟨g10, 61, #[(.slice sA t.length sc), (.slice sB t.length sd)]⟩, ⟨g4, 86, #[.int .i64 lf, .int .i64 cp]⟩] (.slice (some a5) had.length hcap) had [Row.a (.slice uA t.length uc) ((low t kk lo).map cv), Row.c (.slice uB t.length ud) (layp t (clm t 3 kk).1 (had.drop (i + 1).toNat).sum), Row.a (.slice eA t.length ec) ((low t kk lo).map cv), Row.c (.slice eB t.length ed) (layp t (clm t 3 kk).1 (had.drop i.toNat).sum), Row.b (.slice (some a3) t.length nc) t, Row.b (.slice qA t.length qc) t, Row.c (.slice qB t.length qd) (layp t (clm t 3 kk).1 0)] := (T.set 1 rfl 0 (.slice uA t.length uc) rfl).set 1 rfl 1 (.slice uB t.length ud) rfl
         go_roundg ((had.length : Int) - i).toNat
         case measure => omega
         case rel => exact ⟨i + 1, uA, uB, uc, ud, rfl, ⟨by have := HI2.out; omega⟩, HG5, ⟨(T3.drop 1).keep (R' := [Row.a (.slice uA t.length uc) ((low t kk lo).map cv), Row.c (.slice uB t.length ud) (layp t (clm t 3 kk).1 (had.drop (i + 1).toNat).sum), Row.b (.slice (some a3) t.length nc) t, Row.b (.slice qA t.length qc) t, Row.c (.slice qB t.length qd) (layp t (clm t 3 kk).1 0)]) (fun r hr => by simp only [List.mem_cons, List.not_mem_nil, or_false] at hr ⊢; rcases hr with rfl | rfl | rfl | rfl | rfl <;> simp)⟩⟩
      · have c9b := decide_eq_false k1
        have T := HT.out
        have hG := HG4.out
        have hd : had.drop i.toNat = [] := List.drop_eq_nil_of_le (by omega)
        rw [hd] at T hG
        go_wp2_with (fail)
        go_meet
        case rel => exact ⟨eA, eB, ec, ed, ⟨T⟩, ⟨hG⟩⟩
    case rest =>
     obtain ⟨eA, eB, ec, ed, HT2, HG5⟩ := hcut
     clear HT
     have T := HT2.out.drew
     clear HT2
     have h1 := Pure.lim_f HG5.out kk cc
     have h2 := Pure.low_lim (t := low t kk lo) (k := kk) (most := cc) HKK.out.1 (by rw [HL4.out]; exact HKK.out.2) HCP.out.1 HCP.out.2
     have h3 := Pure.low_back (t := t) (k := kk) (most := lo) HKK.out.1 HKK.out.2
     rw [HCF.out] at h3
     rw [h2, h3] at h1
     have HLL := Aside0.mk h1
     clear h1 h2 h3
     have HSM := Aside0.mk (Pure.same_f t (layp t (clm t 3 kk).1 0) (by have := H10.out; omega))
     go_wp2_with (fail)
     have g0 := eq_true HKK.out.1
     have g1 := eq_true HKK.out.2
     refine wp_region_seq (fun w' => Cfg w w' [⟨g12, 58, #[(.slice qA t.length qc), (.slice qB t.length qd)]⟩, ⟨g10, 61, #[(.slice sA t.length sc), (.slice sB t.length sd)]⟩, ⟨g4, 86, #[.int .i64 lf, .int .i64 cp]⟩] (.slice hA had.length hcap) had [Row.b (.slice (some a3) t.length nc) t]) [0, 7, 11] [1, 2, 3, 4, 5, 6, 0, 7, 8, 9, 10, 11, 12] (by kernel_rfl) (by kernel_rfl) (by kernel_rfl) (by kernel_rfl) (by kernel_rfl) (fun _ _ d _ _ h => by cases d <;> exact h) ?h0 ?hseq
     case h0 => exact (T.drop 1).keep (fun r hr => by simp only [List.mem_cons, List.not_mem_nil, or_false] at hr ⊢; rcases hr with rfl; simp)
     case hseq =>
      generalize World.drew wc = wd at T ⊢
      first | (refine seq_val (v := ?_) (a' := ?_) rfl ?_ ?_ ?_ ?_; rotate_left 2; (· rfl); (· intro w0 hS; go_simp; first | done | with_reducible rfl); (· go_simp; first | done | with_reducible rfl)) | (refine seq_off (a' := ?_) rfl ?_ ?_ ?_; rotate_left 1; (· rfl); (· go_simp; first | done | with_reducible rfl))
      first | (refine seq_val (v := ?_) (a' := ?_) rfl ?_ ?_ ?_ ?_; rotate_left 2; (· rfl); (· intro w0 hS; go_simp; first | done | with_reducible rfl); (· go_simp; first | done | with_reducible rfl)) | (refine seq_off (a' := ?_) rfl ?_ ?_ ?_; rotate_left 1; (· rfl); (· go_simp; first | done | with_reducible rfl))
      first | (refine seq_val (v := ?_) (a' := ?_) rfl ?_ ?_ ?_ ?_; rotate_left 2; (· rfl); (· intro w0 hS; go_simp; first | done | with_reducible rfl); (· go_simp; first | done | with_reducible rfl)) | (refine seq_off (a' := ?_) rfl ?_ ?_ ?_; rotate_left 1; (· rfl); (· go_simp; first | done | with_reducible rfl))
      first | (refine seq_val (v := ?_) (a' := ?_) rfl ?_ ?_ ?_ ?_; rotate_left 2; (· rfl); (· intro w0 hS; go_simp; first | done | with_reducible rfl); (· go_simp; first | done | with_reducible rfl)) | (refine seq_off (a' := ?_) rfl ?_ ?_ ?_; rotate_left 1; (· rfl); (· go_simp; first | done | with_reducible rfl))
      first | (refine seq_val (v := ?_) (a' := ?_) rfl ?_ ?_ ?_ ?_; rotate_left 2; (· rfl); (· intro w0 hS; go_simp; first | done | with_reducible rfl); (· go_simp; first | done | with_reducible rfl)) | (refine seq_off (a' := ?_) rfl ?_ ?_ ?_; rotate_left 1; (· rfl); (· go_simp; first | done | with_reducible rfl))
      first | (refine seq_val (v := ?_) (a' := ?_) rfl ?_ ?_ ?_ ?_; rotate_left 2; (· rfl); (· intro w0 hS; have hV : Vb k68 w0 (bad [⟨g12, 58, #[(.slice qA t.length qc), (.slice qB t.length qd)]⟩, ⟨g10, 61, #[(.slice sA t.length sc), (.slice sB t.length sd)]⟩, ⟨g4, 86, #[.int .i64 lf, .int .i64 cp]⟩] (.slice hA had.length hcap)) (.slice (some a3) t.length nc) t := hS.rows _ (show Row.b (.slice (some a3) t.length nc) t ∈ _ by simp); obtain ⟨a4, e4, n0, n1⟩ := at_T68 (Kd.V_reads' hV).2.2 kk HKK.out.1 HKK.out.2; cases e4; rw [HCC.out] at n1; go_simp; first | done | with_reducible rfl); (· go_simp; first | done | with_reducible rfl)) | (refine seq_off (a' := ?_) rfl ?_ ?_ ?_; rotate_left 1; (· rfl); (· go_simp; first | done | with_reducible rfl))
      refine seq_op rfl (by kernel_rfl) (by rfl) (fun K hK => ?_)
      have m0 := (T.cell 0 rfl 0).trans rfl
      have m1 := (T.cell 0 rfl 1).trans rfl
      go_simp
      refine hK _ _ ((T.drop 1).keep (fun r hr => by simp only [List.mem_cons, List.not_mem_nil, or_false] at hr ⊢; rcases hr with rfl; simp)) ?_
      clear hK K m0 m1
      refine seq_op rfl (by kernel_rfl) (by rfl) (fun K hK => ?_)
      go_simp
      go_at_call 55
      refine (limit_ 1000 kk cc T (show Row.a (.slice eA t.length ec) ((low t kk lo).map cv) ∈ _ by simp) (show Row.c (.slice eB t.length ed) (layp t (clm t 3 kk).1 0) ∈ _ by simp) HLL.out).mono ?_
      rintro e wa ⟨u0, u1, rfl, T1⟩
      clear T
      obtain ⟨uA, uc, rfl⟩ := va' T1 (show Row.a u0 (t.map cv) ∈ _ by simp)
      obtain ⟨uB, ud, rfl⟩ := vc' T1 (show Row.c u1 (layp t (clm t 3 kk).1 0) ∈ _ by simp)
      refine hK _ _ ((T1.drop 1).keep (fun r hr => by simp only [List.mem_cons, List.not_mem_nil, or_false] at hr ⊢; rcases hr with rfl; simp)) ?_
      clear hK K
      first | (refine seq_val (v := ?_) (a' := ?_) rfl ?_ ?_ ?_ ?_; rotate_left 2; (· rfl); (· intro w0 hS; go_simp; first | done | with_reducible rfl); (· go_simp; first | done | with_reducible rfl)) | (refine seq_off (a' := ?_) rfl ?_ ?_ ?_; rotate_left 1; (· rfl); (· go_simp; first | done | with_reducible rfl))
      first | (refine seq_val (v := ?_) (a' := ?_) rfl ?_ ?_ ?_ ?_; rotate_left 2; (· rfl); (· intro w0 hS; go_simp; first | done | with_reducible rfl); (· go_simp; first | done | with_reducible rfl)) | (refine seq_off (a' := ?_) rfl ?_ ?_ ?_; rotate_left 1; (· rfl); (· go_simp; first | done | with_reducible rfl))
      first | (refine seq_val (v := ?_) (a' := ?_) rfl ?_ ?_ ?_ ?_; rotate_left 2; (· rfl); (· intro w0 hS; go_simp; first | done | with_reducible rfl); (· go_simp; first | done | with_reducible rfl)) | (refine seq_off (a' := ?_) rfl ?_ ?_ ?_; rotate_left 1; (· rfl); (· go_simp; first | done | with_reducible rfl))
      refine seq_op rfl (by kernel_rfl) (by rfl) (fun K hK => ?_)
      have m0 := (T1.cell 0 rfl 0).trans rfl
      have m1 := (T1.cell 0 rfl 1).trans rfl
      have l0 := T1.froz 0 rfl 0
      have l1 := T1.froz 0 rfl 1
      go_simp
      have T2 : Cfg w _ [⟨g22, 61, #[(.slice uA t.length uc), (.slice uB t.length ud)]⟩, ⟨g12, 58, #[(.slice qA t.length qc), (.slice qB t.length qd)]⟩, ⟨g10, 61, #[(.slice sA t.length sc), (.slice sB t.length sd)]⟩, ⟨g4, 86, #[.int .i64 lf, .int .i64 cp]⟩] (.slice hA had.length hcap) had _ := (T1.set 0 rfl 0 (.slice uA t.length uc) rfl).set 0 rfl 1 (.slice uB t.length ud) rfl
      clear m0 m1 l0 l1
      refine hK _ _ ((T2.drop 1).keep (fun r hr => by simp only [List.mem_cons, List.not_mem_nil, or_false] at hr ⊢; rcases hr with rfl; simp)) ?_
      clear hK K T1
      first | (refine seq_val (v := ?_) (a' := ?_) rfl ?_ ?_ ?_ ?_; rotate_left 2; (· rfl); (· intro w0 hS; go_simp; first | done | with_reducible rfl); (· go_simp; first | done | with_reducible rfl)) | (refine seq_off (a' := ?_) rfl ?_ ?_ ?_; rotate_left 1; (· rfl); (· go_simp; first | done | with_reducible rfl))
      refine seq_nil ?_
      go_wp2_with (fail)
      have T := T2.drew.keep (R' := [Row.a (.slice uA t.length uc) (t.map cv), Row.c (.slice uB t.length ud) (layp t (clm t 3 kk).1 0), Row.b (.slice qA t.length qc) t, Row.c (.slice qB t.length qd) (layp t (clm t 3 kk).1 0)]) (fun r hr => by simp only [List.mem_cons, List.not_mem_nil, or_false] at hr ⊢; rcases hr with rfl | rfl | rfl | rfl <;> simp)
      clear T2
      have HFR9 := Aside0.mk (Pure.from_f t (by have := H10.out; omega) (layp t (clm t 3 kk).1 0) (by rw [Pure.layp_len]; have := H10.out; omega) (k := 1000) (by have := H10.out; omega))
      refine wp_region_seq (fun w' => Cfg w w' [⟨g22, 61, #[(.slice uA t.length uc), (.slice uB t.length ud)]⟩, ⟨g12, 58, #[(.slice qA t.length qc), (.slice qB t.length qd)]⟩, ⟨g10, 61, #[(.slice sA t.length sc), (.slice sB t.length sd)]⟩, ⟨g4, 86, #[.int .i64 lf, .int .i64 cp]⟩] (.slice hA had.length hcap) had [Row.a (.slice uA t.length uc) (t.map cv), Row.c (.slice uB t.length ud) (layp t (clm t 3 kk).1 0), Row.b (.slice qA t.length qc) t, Row.c (.slice qB t.length qd) (layp t (clm t 3 kk).1 0)]) [4, 6] [0, 1, 2, 3, 5, 4, 6, 7, 8] (by kernel_rfl) (by kernel_rfl) (by kernel_rfl) (by kernel_rfl) (by kernel_rfl) (fun _ _ d _ _ h => by cases d <;> exact h) ?h0 ?hseq
      case h0 => exact T
      case hseq =>
       generalize World.drew _ = wd2 at T ⊢
       first | (refine seq_val (v := ?_) (a' := ?_) rfl ?_ ?_ ?_ ?_; rotate_left 2; (· rfl); (· intro w0 hS; go_simp; first | done | with_reducible rfl); (· go_simp; first | done | with_reducible rfl)) | (refine seq_off (a' := ?_) rfl ?_ ?_ ?_; rotate_left 1; (· rfl); (· go_simp; first | done | with_reducible rfl))
       first | (refine seq_val (v := ?_) (a' := ?_) rfl ?_ ?_ ?_ ?_; rotate_left 2; (· rfl); (· intro w0 hS; go_simp; first | done | with_reducible rfl); (· go_simp; first | done | with_reducible rfl)) | (refine seq_off (a' := ?_) rfl ?_ ?_ ?_; rotate_left 1; (· rfl); (· go_simp; first | done | with_reducible rfl))
       first | (refine seq_val (v := ?_) (a' := ?_) rfl ?_ ?_ ?_ ?_; rotate_left 2; (· rfl); (· intro w0 hS; go_simp; first | done | with_reducible rfl); (· go_simp; first | done | with_reducible rfl)) | (refine seq_off (a' := ?_) rfl ?_ ?_ ?_; rotate_left 1; (· rfl); (· go_simp; first | done | with_reducible rfl))
       first | (refine seq_val (v := ?_) (a' := ?_) rfl ?_ ?_ ?_ ?_; rotate_left 2; (· rfl); (· intro w0 hS; have x0 := (hS.cell 0 rfl 0).trans rfl; have x1 := (hS.cell 0 rfl 1).trans rfl; go_simp; first | done | with_reducible rfl); (· go_simp; first | done | with_reducible rfl)) | (refine seq_off (a' := ?_) rfl ?_ ?_ ?_; rotate_left 1; (· rfl); (· go_simp; first | done | with_reducible rfl))
       first | (refine seq_val (v := ?_) (a' := ?_) rfl ?_ ?_ ?_ ?_; rotate_left 2; (· rfl); (· intro w0 hS; have x0 := (hS.cell 1 rfl 0).trans rfl; have x1 := (hS.cell 1 rfl 1).trans rfl; go_simp; first | done | with_reducible rfl); (· go_simp; first | done | with_reducible rfl)) | (refine seq_off (a' := ?_) rfl ?_ ?_ ?_; rotate_left 1; (· rfl); (· go_simp; first | done | with_reducible rfl))
       refine seq_op rfl (by kernel_rfl) (by rfl) (fun K hK => ?_)
       go_simp
       go_at_call 49
       refine (from_ 1000 T (show Row.a (.slice uA t.length uc) (t.map cv) ∈ _ by simp) (show Row.c (.slice uB t.length ud) (layp t (clm t 3 kk).1 0) ∈ _ by simp) HFR9.out).mono ?_
       rintro e wa ⟨f0, f1, rfl, T1⟩
       refine hK _ _ (T1.keep (fun r hr => List.mem_cons_of_mem _ (List.mem_cons_of_mem _ hr))) ?_
       clear hK K T
       refine seq_op rfl (by kernel_rfl) (by rfl) (fun K hK => ?_)
       go_simp
       go_at_call 51
       refine (same_ 1000 T1 (show Row.b f0 t ∈ _ by simp) (show Row.c f1 (layp t (clm t 3 kk).1 0) ∈ _ by simp) (show Row.b (.slice qA t.length qc) t ∈ _ by simp) (show Row.c (.slice qB t.length qd) (layp t (clm t 3 kk).1 0) ∈ _ by simp) HSM.out).mono ?_
       rintro e wb ⟨rfl, T2⟩
       refine hK _ _ (T2.keep (fun r hr => List.mem_cons_of_mem _ (List.mem_cons_of_mem _ hr))) ?_
       clear hK K T1
       first | (refine seq_val (v := ?_) (a' := ?_) rfl ?_ ?_ ?_ ?_; rotate_left 2; (· rfl); (· intro w0 hS; go_simp; first | done | with_reducible rfl); (· go_simp; first | done | with_reducible rfl)) | (refine seq_off (a' := ?_) rfl ?_ ?_ ?_; rotate_left 1; (· rfl); (· go_simp; first | done | with_reducible rfl))
       first | (refine seq_val (v := ?_) (a' := ?_) rfl ?_ ?_ ?_ ?_; rotate_left 2; (· rfl); (· intro w0 hS; go_simp; first | done | with_reducible rfl); (· go_simp; first | done | with_reducible rfl)) | (refine seq_off (a' := ?_) rfl ?_ ?_ ?_; rotate_left 1; (· rfl); (· go_simp; first | done | with_reducible rfl))
       refine seq_nil ?_
       go_wp2_with (fail)
       go_ret
       exact ⟨rfl, T2.bel⟩
end Go.Proofs.Ytnodcekkbbmfnaa.CrB
