/- The law BookNumbers over its contracts. -/
import Derived.Test.YtckkcgkgfkgfdaaCL2
set_option linter.unusedVariables false
set_option linter.unusedSimpArgs false
namespace Go.Proofs.Ytckkcgkgfkgfdaa.AM
open Ytckkcgkgfkgfdaa
set_option maxRecDepth 20000
set_option maxHeartbeats 16000000
def half : Nat := 4602678819172646912
def nCfg (a1 a2 : Int) (ns : List Nod) : Cfg := ⟨a1, a2, 1000, 64, ns, [0, 0, 0, 0], [⟨10, 100, 1000, 4602678819172646912⟩]⟩
theorem fz3 (a1 a2 : Int) (ns : List Nod) (b1 b2 nx : Nat) (ob : List Ent) : Fin (.tup [.agg [.int false .i64 a1, .int false .i64 a2, .int true .i64 1000, .int true .i64 64, .mlist 2 true false Nod eNod dNod ns, .own 1022 b1 1 0 4, .own 1027 b2 4 0 1]]) (⟨1027, b2, .row 34 4 (.list 4 true true [.agg [.int true .i64 10, .int true .i64 100, .int true .i64 1000, .val (.float .f64 4602678819172646912)]])⟩ :: ⟨1022, b1, .row 3 1 (.list 1 true true [.int true .i64 0, .int true .i64 0, .int true .i64 0, .int true .i64 0])⟩ :: ob) nx (.tup [eCfg true false (nCfg a1 a2 ns)]) ob nx := by
  refine Fin.trans (Fin.freeze (ix := 1027) (bs := b2) (st := 4) (e := 34) (c := .list 4 true true [.agg [.int true .i64 10, .int true .i64 100, .int true .i64 1000, .val (.float .f64 4602678819172646912)]]) (by simp [find]) ?_ _) ?_
  · simp [frzC, frzCs, isIt, seqLe, real, show eqb 1022 1027 = false from rfl]
  · rw [show frz real 1027 b2 4 (.list 4 true true [.agg [.int true .i64 10, .int true .i64 100, .int true .i64 1000, .val (.float .f64 4602678819172646912)]]) (.tup [.agg [.int false .i64 a1, .int false .i64 a2, .int true .i64 1000, .int true .i64 64, .mlist 2 true false Nod eNod dNod ns, .own 1022 b1 1 0 4, .own 1027 b2 4 0 1]]) = .tup [.agg [.int false .i64 a1, .int false .i64 a2, .int true .i64 1000, .int true .i64 64, .mlist 2 true false Nod eNod dNod ns, .own 1022 b1 1 0 4, .list 4 true false [.agg [.int true .i64 10, .int true .i64 100, .int true .i64 1000, .val (.float .f64 4602678819172646912)]]]] by simp [frz, frzs, isIt, cutSeq, real, show eqb 1022 1027 = false from rfl]]
    rw [show delOb (⟨1027, b2, .row 34 4 (.list 4 true true [.agg [.int true .i64 10, .int true .i64 100, .int true .i64 1000, .val (.float .f64 4602678819172646912)]])⟩ :: ⟨1022, b1, .row 3 1 (.list 1 true true [.int true .i64 0, .int true .i64 0, .int true .i64 0, .int true .i64 0])⟩ :: ob) 1027 = ⟨1022, b1, .row 3 1 (.list 1 true true [.int true .i64 0, .int true .i64 0, .int true .i64 0, .int true .i64 0])⟩ :: ob by simp [delOb]]
    refine Fin.trans (Fin.freeze (ix := 1022) (bs := b1) (st := 1) (e := 3) (c := .list 1 true true [.int true .i64 0, .int true .i64 0, .int true .i64 0, .int true .i64 0]) (by simp [find]) ?_ _) ?_
    · simp [frzC, frzCs, isIt, seqLe, real]
    · rw [show frz real 1022 b1 1 (.list 1 true true [.int true .i64 0, .int true .i64 0, .int true .i64 0, .int true .i64 0]) (.tup [.agg [.int false .i64 a1, .int false .i64 a2, .int true .i64 1000, .int true .i64 64, .mlist 2 true false Nod eNod dNod ns, .own 1022 b1 1 0 4, .list 4 true false [.agg [.int true .i64 10, .int true .i64 100, .int true .i64 1000, .val (.float .f64 4602678819172646912)]]]]) = .tup [.agg [.int false .i64 a1, .int false .i64 a2, .int true .i64 1000, .int true .i64 64, .mlist 2 true false Nod eNod dNod ns, .list 1 true false [.int true .i64 0, .int true .i64 0, .int true .i64 0, .int true .i64 0], .list 4 true false [.agg [.int true .i64 10, .int true .i64 100, .int true .i64 1000, .val (.float .f64 4602678819172646912)]]]] by simp [frz, frzs, isIt, cutSeq, real]]
      rw [show delOb (⟨1022, b1, .row 3 1 (.list 1 true true [.int true .i64 0, .int true .i64 0, .int true .i64 0, .int true .i64 0])⟩ :: ob) 1022 = ob by simp [delOb]]
      exact Fin.wk _ _ (Wk.tup (Wks.cons (Wk.agg (Wks.cons (unl_wk _) (Wks.cons (unl_wk _) (Wks.cons (unl_wk _) (Wks.cons (unl_wk _) (Wks.cons (Wk.refl _) (Wks.cons (Wk.mlist_els (l := [0, 0, 0, 0]) (enc := eI) (d := (0 : Int)) (unls_wk _)) (Wks.cons (Wk.mlist_els (l := [⟨10, 100, 1000, 4602678819172646912⟩]) (enc := eSym) (d := dSym) (unls_wk _)) Wks.nil)))))))) Wks.nil))
/-- The open orders of a shard, so many. -/
def Opn (S a1 : Int) (i : Nat) (opn : List BEnt) : Prop := opn.length = i ∧ ∀ j, j < i → (opn.getD j dEnt).id = S + a1 * j ∧ (opn.getD j dEnt).left = 5 ∧ (opn.getD j dEnt).state = 1 ∧ (opn.getD j dEnt).epoch = 3
theorem Opn.snoc {S a1 : Int} {i : Nat} {opn : List BEnt} (h : Opn S a1 i opn) {e : BEnt} (h1 : e.id = S + a1 * i) (h2 : e.left = 5) (h3 : e.state = 1) (h4 : e.epoch = 3) : Opn S a1 (i + 1) (opn ++ [e]) := by
  refine ⟨by simp [h.1], fun j hj => ?_⟩
  by_cases hlt : j < i
  · rw [List.getD_eq_getElem?_getD, List.getElem?_append_left (by rw [h.1]; exact hlt), ← List.getD_eq_getElem?_getD]
    exact h.2 j hlt
  · have : j = i := by omega
    subst this
    rw [List.getD_eq_getElem?_getD, List.getElem?_append_right (by rw [h.1]; omega), h.1]
    simp [h1, h2, h3, h4]
theorem Opn.sorted {S a1 : Int} {i : Nat} {opn : List BEnt} (h : Opn S a1 i opn) (ha : 1 ≤ a1) : opn.Pairwise fun x y => x.id < y.id := by
  rw [List.pairwise_iff_getElem]
  intro x y hx hy hxy
  have gx := (h.2 x (by rw [← h.1]; exact hx)).1
  have gy := (h.2 y (by rw [← h.1]; exact hy)).1
  rw [List.getD_eq_getElem?_getD, List.getElem?_eq_getElem hx] at gx
  rw [List.getD_eq_getElem?_getD, List.getElem?_eq_getElem hy] at gy
  have gx : opn[x].id = S + a1 * x := gx
  have gy : opn[y].id = S + a1 * y := gy
  rw [gx, gy]
  have : a1 * (x : Int) < a1 * (y : Int) := Int.mul_lt_mul_of_pos_left (by omega) (by omega)
  omega
/-- What is found by a number, and what should be. -/
theorem Opn.find {S a1 d : Int} {m k : Nat} {opn : List BEnt} {f : Bool} (h : Opn S a1 m opn) (ha : 1 ≤ a1 ∧ a1 ≤ 3) (hS : 0 ≤ S) (h1 : k ≤ opn.length) (h2 : ∀ i, i < k → (opn.getD i dEnt).id < d) (h3 : ∀ i, k ≤ i → i < opn.length → d ≤ (opn.getD i dEnt).id) (h4 : f = true ↔ k < opn.length ∧ (opn.getD k dEnt).id = d) :
    f = true ↔ S ≤ d ∧ (d - S).tmod a1 = 0 ∧ (d - S).tdiv a1 < m := by
  constructor
  · intro hf
    obtain ⟨h5, h6⟩ := h4.1 hf
    rw [h.1] at h5
    have h7 := (h.2 k h5).1
    rw [h6] at h7
    have h8 : d - S = a1 * k := by omega
    have h9 : 0 ≤ a1 * (k : Int) := Int.mul_nonneg (by omega) (by omega)
    refine ⟨by omega, by rw [h8]; exact Int.mul_tmod_right _ _, ?_⟩
    rw [h8, Int.mul_tdiv_cancel_left _ (by omega)]
    omega
  · intro ⟨g1, g2, g3⟩
    have g0 : 0 ≤ d - S := by omega
    rw [Int.tmod_eq_emod_of_nonneg g0] at g2
    rw [Int.tdiv_eq_ediv_of_nonneg g0] at g3
    obtain ⟨q, hq⟩ : ∃ q : Nat, (d - S) / a1 = q := ⟨((d - S) / a1).toNat, by
      have := Int.ediv_nonneg g0 (show 0 ≤ a1 by omega)
      omega⟩
    have hd : d = S + a1 * q := by
      have := Int.mul_ediv_add_emod (d - S) a1
      rw [hq, g2] at this
      omega
    rw [hq] at g3
    have hqm : q < m := by omega
    have hidq := (h.2 q hqm).1
    have hkq : k = q := by
      rcases Nat.lt_trichotomy k q with h5 | h5 | h5
      · have h6 := h3 k (Nat.le_refl _) (by rw [h.1]; omega)
        have h7 := (h.2 k (by omega)).1
        have : a1 * (k : Int) < a1 * (q : Int) := Int.mul_lt_mul_of_pos_left (by omega) (by omega)
        omega
      · exact h5
      · have h6 := h2 q h5
        omega
    subst hkq
    exact h4.2 ⟨by rw [h.1]; exact hqm, by rw [hidq]; exact hd.symm⟩
theorem nums_add {c : Cfg} {b y : Bk} {o : Ordr} {ep : Int} {L : Nat} (hn : ∀ r ∈ b.rows, r.nums.length ≤ L) (hy : y = bAdd c b o ep) : y.rows.length = b.rows.length ∧ ∀ r ∈ y.rows, r.nums.length ≤ L + 1 := by
  subst hy
  have hd : ∀ k, (b.rows.getD k dRow).nums.length ≤ L := fun k => getD_all (p := fun r : BRow => r.nums.length ≤ L) hn (Nat.zero_le _) k
  refine ⟨?_, fun r hr => ?_⟩
  · simp only [bAdd]
    split <;> simp
  · simp only [bAdd] at hr
    split at hr
    · rcases List.mem_or_eq_of_mem_set hr with hr | hr
      · exact Nat.le_succ_of_le (hn r hr)
      · subst hr
        simp only [rowWith, List.length_drop, List.length_append, List.length_singleton]
        have := hd o.acct.toNat
        omega
    · exact Nat.le_succ_of_le (hn r hr)
theorem c3_mul {a1 i : Int} (h1 : 1 ≤ a1 ∧ a1 ≤ 3) (h2 : 0 ≤ i) (h3 : i ≤ 40) : 0 ≤ a1 * i ∧ a1 * i ≤ 120 := by
  refine ⟨Int.mul_nonneg (by omega) h2, ?_⟩
  have : a1 * i ≤ 3 * i := Int.mul_le_mul_of_nonneg_right h1.2 h2
  omega
theorem c3_w {a1 i S s1 c1 w : Int} (hp : 0 ≤ a1 * i ∧ a1 * i ≤ 120) (h1 : 0 ≤ S) (h2 : S < 3) (hs : s1 = S) (hc : c1 = i) (hw : w = IntKind.i64.wrap (s1 + IntKind.i64.wrap (a1 * c1))) : w = S + a1 * i := by
  subst hs hc
  rw [wI (x := a1 * c1) (by omega) (by omega), wI (by omega) (by omega)] at hw
  exact hw
theorem c3_found {S a1 d m i eid el es ee : Int} {eo : Ordr} {k : Nat} {opn : List BEnt} {ff : Bool} (h : Opn S a1 i.toNat opn) (ha : 1 ≤ a1 ∧ a1 ≤ 3) (hS : 0 ≤ S ∧ S < a1) (hi : 0 ≤ i) (h5 : i ≤ m) (h6 : m ≤ i) (hd0 : -3 ≤ d) (hd1 : d ≤ 130)
    (q1 : k ≤ opn.length) (q2 : ∀ i, i < k → (opn.getD i dEnt).id < d) (q3 : ∀ i, k ≤ i → i < opn.length → d ≤ (opn.getD i dEnt).id) (q4 : ff = true ↔ k < opn.length ∧ (opn.getD k dEnt).id = d) (he : (⟨eid, eo, el, es, ee⟩ : BEnt) = bif ff then opn.getD k dEnt else dEnt) :
    (ff = true ∧ S ≤ d ∧ (IntKind.i64.wrap (d - S)).tmod a1 = 0 ∧ IntKind.i64.wrap ((IntKind.i64.wrap (d - S)).tdiv a1) < m ∧ eid = d ∧ el = 5 ∧ es = 1 ∧ ee = 3) ∨ (ff = false ∧ ¬(S ≤ d ∧ (IntKind.i64.wrap (d - S)).tmod a1 = 0 ∧ IntKind.i64.wrap ((IntKind.i64.wrap (d - S)).tdiv a1) < m)) := by
  obtain rfl : i = m := by omega
  have hf := h.find ha hS.1 q1 q2 q3 q4
  rw [show ((i.toNat : Nat) : Int) = i by omega] at hf
  rw [wI (x := d - S) (by omega) (by omega)]
  have hb : S ≤ d → IntKind.i64.wrap ((d - S).tdiv a1) = (d - S).tdiv a1 := fun hle => by
    have h1 : 0 ≤ (d - S).tdiv a1 := Int.tdiv_nonneg (by omega) (by omega)
    have h2 : (d - S).tdiv a1 ≤ d - S := by
      rw [Int.tdiv_eq_ediv_of_nonneg (by omega)]
      exact Int.ediv_le_self _ (by omega)
    exact wI (by omega) (by omega)
  cases ff with
  | true =>
    obtain ⟨g1, g2, g3⟩ := hf.1 rfl
    obtain ⟨g4, g5⟩ := q4.1 rfl
    have he : (⟨eid, eo, el, es, ee⟩ : BEnt) = opn.getD k dEnt := he
    have hk := h.2 k (by rw [← h.1]; exact g4)
    rw [← he] at g5 hk
    exact .inl ⟨rfl, g1, g2, by rw [hb g1]; exact g3, g5, hk.2.1, hk.2.2.1, hk.2.2.2⟩
  | false =>
    refine .inr ⟨rfl, fun ⟨g1, g2, g3⟩ => ?_⟩
    rw [hb g1] at g3
    exact absurd (hf.2 ⟨g1, g2, g3⟩) (by decide)
theorem c3_shard {a1 a2 s1 c1 S ys yc : Int} {ns : List Nod} {rows yr : List BRow} {opn yo : List BEnt} {o : Ordr} (hs1 : s1 = S) (hy : (⟨ys, yc, yr, yo⟩ : Bk) = bAdd (nCfg a1 a2 ns) ⟨s1, c1, rows, opn⟩ o 3) : ys = S := by
  have := congrArg Bk.shard hy
  simpa [bAdd, hs1] using this
theorem c3_came {a1 a2 s1 c1 i ys yc : Int} {ns : List Nod} {rows yr : List BRow} {opn yo : List BEnt} {o : Ordr} (hc1 : c1 = i) (hy : (⟨ys, yc, yr, yo⟩ : Bk) = bAdd (nCfg a1 a2 ns) ⟨s1, c1, rows, opn⟩ o 3) : yc = IntKind.i64.wrap (i + 1) := by
  have := congrArg Bk.came hy
  simpa [bAdd, hc1] using this
theorem c3_opn {a1 a2 s1 c1 i S ys yc : Int} {ns : List Nod} {rows yr : List BRow} {opn yo : List BEnt} {b : Bool} {x1 x2 x4 x6 x7 : Int} (h : Opn S a1 i.toNat opn) (hs1 : s1 = S) (hc1 : c1 = i) (hi : 0 ≤ i) (ha : 1 ≤ a1 ∧ a1 ≤ 3) (hS : 0 ≤ S) (hp : 0 ≤ a1 * i ∧ a1 * i ≤ 120) (hS3 : S < 3) (hy : (⟨ys, yc, yr, yo⟩ : Bk) = bAdd (nCfg a1 a2 ns) ⟨s1, c1, rows, opn⟩ ⟨x1, x2, b, x4, 5, x6, x7⟩ 3) : Opn S a1 (i.toNat + 1) yo := by
  have h0 := congrArg Bk.opn hy
  have hw : IntKind.i64.wrap (s1 + IntKind.i64.wrap (a1 * c1)) = S + a1 * i := by
    subst hs1 hc1
    rw [wI (x := a1 * c1) (by omega) (by omega), wI (by omega) (by omega)]
  simp only [bAdd, nCfg, hw] at h0
  subst h0
  exact h.snoc (by rw [show ((i.toNat : Nat) : Int) = i by omega]) rfl rfl rfl
theorem c3 {P : Program} (hP : Try.prog = P) (g f : Bool) (c : Cfg) (h1 : c.symbols.length ≤ 4398046511104) (h2 : c.nodes.length < 9223372036854775807) (h3 : c.accounts.length < 9223372036854775807) (n shard : Int) (nx : Nat) : ACalls P 3 [eConf g f c, .int false .i64 n, .int false .i64 shard] [] nx (fun v _ _ => v = .bool true) := by
  have h1' : c.symbols.length < 9223372036854775807 := Nat.lt_of_le_of_lt h1 (by decide)
  subst hP
  refine acalls_go (nm := []) (pl := []) (c := code Try.f3) tab_ok mixed Try.func3 (by kernel_rfl) (by kernel_rfl) (by kernel_rfl) ?_
  intro O P Q hO hP hQ
  have hsame : ∀ a, O.neq a a = true := fun a => by rw [← hO]; simp [real]
  obtain ⟨nadd, nsub, nmul, nquo, nrem, nbits, nshl, nshr, nwrap, nmax, nmin, nlt, nle, neq, nnot, nbeq, nband, ni2n, nn2i, ninb, nnadd, nnsub, nnle, nnlt, nneq, nlen, nget, nupd, napp, ntak, ndrp, nspl, nrep, nnth, nmlen, ncut, nemap, nslen, nsidx, nscut, nscat, nseq, nfcmp, ni2f⟩ := O
  replace hsame : ∀ a, nneq a a = true := hsame
  cbv
  repeat' (first | exact hsame _ | refine And.intro ?_ ?_ | (refine (c7 hP g f c h1 _).fr ?_; rintro _ _ _ ⟨rfl, rfl⟩; cbv) | (refine (c6 hP g f c h1' h2 h3 _).fr ?_; rintro _ _ _ ⟨⟨a1, a2, a3, a4, ns, ac, sy⟩, rfl, hfx, rfl⟩; cbv) | (refine ACalls.pfr (fz3 a1 a2 ns _ _ _ _) (c8 hP true false (nCfg a1 a2 ns) ?_ ?_ ?_ _) ?_; all_goals try (rintro _ _ _ ⟨rfl, rfl⟩; cbv)) | (refine (c9 hP true false (nCfg a1 a2 ns) ?_ _ _).fr ?_; all_goals try (rintro _ _ _ ⟨⟨bs, bc, br, bo⟩, rfl, hb, rfl⟩; cbv)) | (split <;> (rename_i hc; (try rw [hc]); (try cbv))))
  all_goals try (have hsh : 1 ≤ a1 ∧ a1 ≤ 3 := hfx.ok.shards)
  all_goals try (have hns : ns.length ≤ 10 := hfx.ok.nodes.2)
  all_goals try (first | exact Nat.lt_of_le_of_lt h2 (by decide) | exact Nat.lt_of_le_of_lt h3 (by decide) | (show 1 ≤ 1000000000000; decide) | (show 4 ≤ 1000000000000; decide) | (show ns.length ≤ 1000000000000; omega))
  · simp only [real, Num.mk.injEq] at hO
    obtain ⟨rfl, rfl, rfl, rfl, rfl, rfl, rfl, rfl, rfl, rfl, rfl, rfl, rfl, rfl, rfl, rfl, rfl, rfl, rfl, rfl, rfl, rfl, rfl, rfl, rfl, rfl, rfl, rfl, rfl, rfl, rfl, rfl, rfl, rfl, rfl, rfl, rfl, rfl, rfl, rfl, rfl, rfl, rfl, rfl⟩ := hO
    subst hQ
    try subst hI
    try subst hμ
    clear hsame
    try dsimp only at *
    try simp only [nc] at *
    try simp only [Int.ofNat_eq_natCast, decide_eq_true_eq, decide_eq_false_iff_not, Bool.and_eq_true, beq_iff_eq, beq_eq_false_iff_ne, ne_eq, Bool.false_eq_true, reduceCtorEq, Nat.add_eq, Nat.sub_eq, Nat.blt_eq, Nat.ble_eq, Nat.zero_add, Nat.add_zero, Bool.not_eq_true', Bool.not_eq_false', fEnt, fRow, fNod, fSym] at *
    rw [wU (by omega) (by omega)]
    omega
  · simp only [real, Num.mk.injEq] at hO
    obtain ⟨rfl, rfl, rfl, rfl, rfl, rfl, rfl, rfl, rfl, rfl, rfl, rfl, rfl, rfl, rfl, rfl, rfl, rfl, rfl, rfl, rfl, rfl, rfl, rfl, rfl, rfl, rfl, rfl, rfl, rfl, rfl, rfl, rfl, rfl, rfl, rfl, rfl, rfl, rfl, rfl, rfl, rfl, rfl, rfl⟩ := hO
    subst hQ
    try subst hI
    try subst hμ
    clear hsame
    try dsimp only at *
    try simp only [nc] at *
    try simp only [Int.ofNat_eq_natCast, decide_eq_true_eq, decide_eq_false_iff_not, Bool.and_eq_true, beq_iff_eq, beq_eq_false_iff_ne, ne_eq, Bool.false_eq_true, reduceCtorEq, Nat.add_eq, Nat.sub_eq, Nat.blt_eq, Nat.ble_eq, Nat.zero_add, Nat.add_zero, Bool.not_eq_true', Bool.not_eq_false', fEnt, fRow, fNod, fSym] at *
    decide
  try clear hI I
  try clear hμ μ
  obtain ⟨I, hI⟩ : ∃ I : St → Prop, I = (fun s => ∃ (S m i s1 c1 : Int) (x7 x9 x10 n b1 b2 : Nat) (rows : List BRow) (opn : List BEnt), s = ⟨[(7, .ptr 1007 x7 0), (8, .int false .i64 S), (9, .ptr 1009 x9 0), (10, .ptr 1010 x10 0), (11, .int false .i64 m), (12, .int false .i64 i)], [⟨1007, x7, .box 29 [.int false .i64 a1, .int false .i64 a2, .int true .i64 1000, .int true .i64 64, .mlist 2 true false Nod eNod dNod ns, .own 1022 b1 1 0 4, .own 1027 b2 4 0 1]⟩, ⟨1009, x9, .box 39 [.int false .i64 a1, .int false .i64 a2, .int false .i64 1000, .int false .i64 64, .mlist 2 true false Nod eNod dNod ns, .mlist 1 true false Int eI 0 [0, 0, 0, 0], .mlist 4 true false Sym eSym dSym [⟨10, 100, 1000, 4602678819172646912⟩]]⟩, ⟨1010, x10, .box 44 [.int false .i64 s1, .int false .i64 c1, .mlist 3 true false BRow eRow dRow rows, .mlist 11 true false BEnt eEnt dEnt opn]⟩], n⟩ ∧ (0 ≤ S ∧ S < a1) ∧ (0 ≤ m ∧ m < 40) ∧ 0 ≤ i ∧ i ≤ m ∧ s1 = S ∧ c1 = i ∧ rows.length = 4 ∧ (∀ r ∈ rows, r.nums.length ≤ i.toNat) ∧ Opn S a1 i.toNat opn) := ⟨_, rfl⟩
  obtain ⟨μ, hμ⟩ : ∃ μ : St → Nat, μ = (fun s => match s.tm with | _ :: _ :: _ :: _ :: _ :: (_, .int _ _ i) :: _ => (40 - i).toNat | _ => 0) := ⟨_, rfl⟩
  refine ⟨[7, 8, 9, 10, 11, 12], [1007, 1009, 1010], I, μ, ?_, ?_⟩
  · cbv
    simp only [real, Num.mk.injEq] at hO
    obtain ⟨rfl, rfl, rfl, rfl, rfl, rfl, rfl, rfl, rfl, rfl, rfl, rfl, rfl, rfl, rfl, rfl, rfl, rfl, rfl, rfl, rfl, rfl, rfl, rfl, rfl, rfl, rfl, rfl, rfl, rfl, rfl, rfl, rfl, rfl, rfl, rfl, rfl, rfl, rfl, rfl, rfl, rfl, rfl, rfl⟩ := hO
    subst hQ
    try subst hI
    try subst hμ
    clear hsame
    try dsimp only at *
    try simp only [nc] at *
    try simp only [Int.ofNat_eq_natCast, decide_eq_true_eq, decide_eq_false_iff_not, Bool.and_eq_true, beq_iff_eq, beq_eq_false_iff_ne, ne_eq, Bool.false_eq_true, reduceCtorEq, Nat.add_eq, Nat.sub_eq, Nat.blt_eq, Nat.ble_eq, Nat.zero_add, Nat.add_zero, Bool.not_eq_true', Bool.not_eq_false', fEnt, fRow, fNod, fSym] at *
    have hS := umod shard (k := IntKind.u64.wrap a1) (by rw [wU (by omega) (by omega)]; omega) (by rw [wU (by omega) (by omega)]; omega)
    have hS2 : IntKind.u64.wrap a1 = a1 := wU (by omega) (by omega)
    have hm := umod n (k := 40) (by decide) (by decide)
    obtain ⟨e1, e2, e3, e4⟩ := Bk.mk.inj hb
    refine WI.now ⟨_, _, 0, _, _, _, _, _, _, _, _, _, _, rfl, ⟨hS.1, by omega⟩, hm, Int.le_refl _, hm.1, e1, e2, ?_, fun r hr => ?_, ?_⟩
    · rw [e3]
      rfl
    · rw [e3] at hr
      rw [List.eq_of_mem_replicate hr]
      exact Nat.zero_le _
    · rw [e4]
      exact ⟨rfl, fun j hj => absurd hj (Nat.not_lt_zero j)⟩
  · intro s₀ h₀
    rw [hI] at h₀
    obtain ⟨S, m, i, s1, c1, x7, x9, x10, n', b1, b2, rows, opn, rfl, hS, hm, hi0, him, hs1, hc1, hrl, hrn, hop⟩ := h₀
    cbv
    repeat' (first | exact hsame _ | refine And.intro ?_ ?_ | (refine ACalls.afr (args' := [eOrd ⟨S, 0, false, 10, 5, i, 0⟩]) (unls_wk _) (c10 hP ⟨S, 0, false, 10, 5, i, 0⟩ _) ?_; rintro _ _ _ ⟨rfl, rfl⟩; cbv) | (refine ACalls.afr (args' := [eCfg true false (nCfg a1 a2 ns), eBk ⟨s1, c1, rows, opn⟩, eOrd ⟨S, 0, false, 10, 5, i, 0⟩, .int false .i64 3]) (unls_wk _) (c11 hP true false (nCfg a1 a2 ns) ?_ ?_ ⟨s1, c1, rows, opn⟩ ?_ ?_ ?_ ⟨S, 0, false, 10, 5, i, 0⟩ 3 _) ?_; all_goals try (rintro _ _ _ ⟨⟨ys, yc, yr, yo⟩, w, rfl, hy, hw, rfl⟩; cbv)) | (refine (c12 hP _).fr ?_; rintro _ _ _ ⟨rfl, rfl⟩; cbv) | (split <;> (rename_i hc; (try rw [hc]); (try cbv))))
    rotate_right 1
    · try clear hI I
      try clear hμ μ
      obtain ⟨I, hI⟩ : ∃ I : St → Prop, I = (fun s => ∃ (d : Int) (y7 y10 n : Nat), s = ⟨[(7, .ptr 1007 y7 0), (8, .int false .i64 S), (10, .ptr 1010 y10 0), (11, .int false .i64 m), (15, .int false .i64 d)], [⟨1007, y7, .box 29 [.int false .i64 a1, .int false .i64 a2, .int true .i64 1000, .int true .i64 64, .mlist 2 true false Nod eNod dNod ns, .own 1022 b1 1 0 4, .own 1027 b2 4 0 1]⟩, ⟨1010, y10, .box 44 [.int false .i64 s1, .int false .i64 c1, .mlist 3 true false BRow eRow dRow rows, .mlist 11 true false BEnt eEnt dEnt opn]⟩], n⟩ ∧ -3 ≤ d ∧ d ≤ 130) := ⟨_, rfl⟩
      obtain ⟨μ, hμ⟩ : ∃ μ : St → Nat, μ = (fun s => match s.tm with | _ :: _ :: _ :: _ :: (_, .int _ _ d) :: _ => (130 - d).toNat | _ => 0) := ⟨_, rfl⟩
      refine ⟨[7, 8, 10, 11, 15], [1007, 1010], I, μ, ?_, ?_⟩
      · cbv
        simp only [real, Num.mk.injEq] at hO
        obtain ⟨rfl, rfl, rfl, rfl, rfl, rfl, rfl, rfl, rfl, rfl, rfl, rfl, rfl, rfl, rfl, rfl, rfl, rfl, rfl, rfl, rfl, rfl, rfl, rfl, rfl, rfl, rfl, rfl, rfl, rfl, rfl, rfl, rfl, rfl, rfl, rfl, rfl, rfl, rfl, rfl, rfl, rfl, rfl, rfl⟩ := hO
        subst hQ
        try subst hI
        try subst hμ
        clear hsame
        try dsimp only at *
        try simp only [nc] at *
        try simp only [Int.ofNat_eq_natCast, decide_eq_true_eq, decide_eq_false_iff_not, Bool.and_eq_true, beq_iff_eq, beq_eq_false_iff_ne, ne_eq, Bool.false_eq_true, reduceCtorEq, Nat.add_eq, Nat.sub_eq, Nat.blt_eq, Nat.ble_eq, Nat.zero_add, Nat.add_zero, Bool.not_eq_true', Bool.not_eq_false', fEnt, fRow, fNod, fSym] at *
        exact WI.now ⟨_, _, _, _, rfl, by decide, by decide⟩
      · intro s₀ h₀
        rw [hI] at h₀
        obtain ⟨d, y7, y10, n'', rfl, hd0, hd1⟩ := h₀
        cbv
        repeat' (first | exact hsame _ | refine And.intro ?_ ?_ | (refine (c13 hP ⟨s1, c1, rows, opn⟩ ?_ ?_ d _).fr ?_; all_goals try (rintro _ _ _ ⟨k, ff, ⟨eid, eo, el, es, ee⟩, rfl, q1, q2, q3, q4, he, rfl⟩; cbv)) | (split <;> (rename_i hc; (try rw [hc]); (try cbv))))
        all_goals
          simp only [real, Num.mk.injEq] at hO
          obtain ⟨rfl, rfl, rfl, rfl, rfl, rfl, rfl, rfl, rfl, rfl, rfl, rfl, rfl, rfl, rfl, rfl, rfl, rfl, rfl, rfl, rfl, rfl, rfl, rfl, rfl, rfl, rfl, rfl, rfl, rfl, rfl, rfl, rfl, rfl, rfl, rfl, rfl, rfl, rfl, rfl, rfl, rfl, rfl, rfl⟩ := hO
          subst hQ
          try subst hI
          try subst hμ
          clear hsame
          try dsimp only at *
          try simp only [nc] at *
          try simp only [Int.ofNat_eq_natCast, decide_eq_true_eq, decide_eq_false_iff_not, Bool.and_eq_true, beq_iff_eq, beq_eq_false_iff_ne, ne_eq, Bool.false_eq_true, reduceCtorEq, Nat.add_eq, Nat.sub_eq, Nat.blt_eq, Nat.ble_eq, Nat.zero_add, Nat.add_zero, Bool.not_eq_true', Bool.not_eq_false', fEnt, fRow, fNod, fSym] at *
        all_goals have hol : opn.length = i.toNat := hop.1
        any_goals (show opn.length < 4611686018427387904; omega)
        any_goals exact hop.sorted hsh.1
        any_goals (show ¬a1 = 0; omega)
        any_goals exact FQ.done rfl
        all_goals have hF := c3_found hop hsh hS hi0 (by omega) (by omega) hd0 hd1 q1 q2 q3 q4 he
        all_goals generalize IntKind.i64.wrap ((IntKind.i64.wrap (d - S)).tdiv a1) = W at *
        all_goals generalize (IntKind.i64.wrap (d - S)).tmod a1 = T at *
        any_goals
          refine WD.now ⟨IntKind.i64.wrap (d + 1), _, _, _, rfl, ?_, ?_⟩ ?_
          · rw [wI (by omega) (by omega)]; omega
          · rw [wI (by omega) (by omega)]; omega
          · show (130 - IntKind.i64.wrap (d + 1)).toNat < (130 - d).toNat
            rw [wI (by omega) (by omega)]; omega
        all_goals exfalso
        all_goals (rcases hF with ⟨rfl, g1, g2, g3, g4, g5, g6, g7⟩ | ⟨rfl, g1⟩ <;> (first | omega | (simp at *; omega) | (simp at *; done)))
    all_goals
      simp only [real, Num.mk.injEq] at hO
      obtain ⟨rfl, rfl, rfl, rfl, rfl, rfl, rfl, rfl, rfl, rfl, rfl, rfl, rfl, rfl, rfl, rfl, rfl, rfl, rfl, rfl, rfl, rfl, rfl, rfl, rfl, rfl, rfl, rfl, rfl, rfl, rfl, rfl, rfl, rfl, rfl, rfl, rfl, rfl, rfl, rfl, rfl, rfl, rfl, rfl⟩ := hO
      subst hQ
      try subst hI
      try subst hμ
      clear hsame
      try dsimp only at *
      try simp only [nc] at *
      try simp only [Int.ofNat_eq_natCast, decide_eq_true_eq, decide_eq_false_iff_not, Bool.and_eq_true, beq_iff_eq, beq_eq_false_iff_ne, ne_eq, Bool.false_eq_true, reduceCtorEq, Nat.add_eq, Nat.sub_eq, Nat.blt_eq, Nat.ble_eq, Nat.zero_add, Nat.add_zero, Bool.not_eq_true', Bool.not_eq_false', fEnt, fRow, fNod, fSym] at *
    all_goals have hwi : 0 ≤ a2 ∧ a2 ≤ 3 := hfx.ok.window
    all_goals have hol : opn.length = i.toNat := hop.1
    any_goals (show 0 ≤ a2; omega)
    any_goals (show a2 ≤ 1000000; omega)
    any_goals (show rows.length ≤ 1000000000000; omega)
    any_goals (show opn.length ≤ 1000000000000; omega)
    any_goals (exact fun r hr => Nat.le_trans (hrn r hr) (by omega))
    all_goals have hp : 0 ≤ a1 * i ∧ a1 * i ≤ 120 := c3_mul hsh hi0 (by omega)
    all_goals try (have hw : w = S + a1 * i := c3_w (a1 := a1) (i := i) (S := S) hp (by omega) (by omega) hs1 hc1 hw)
    all_goals try rw [wI (x := a1 * i) (by omega) (by omega), wI (x := S + a1 * i) (by omega) (by omega)] at hc
    all_goals try (exfalso; omega)
    refine WD.now ⟨S, m, IntKind.i64.wrap (i + 1), ys, yc, _, _, _, _, _, _, yr, yo, rfl, hS, hm, ?_, ?_, ?_, ?_, ?_, ?_, ?_⟩ ?_
    · rw [wI (by omega) (by omega)]; omega
    · rw [wI (by omega) (by omega)]; omega
    · exact c3_shard hs1 hy
    · exact c3_came hc1 hy
    · rw [(nums_add hrn hy).1]; exact hrl
    · rw [wI (by omega) (by omega), show (i + 1).toNat = i.toNat + 1 by omega]
      exact (nums_add hrn hy).2
    · rw [wI (by omega) (by omega), show (i + 1).toNat = i.toNat + 1 by omega]
      exact c3_opn hop hs1 hc1 hi0 hsh hS.1 hp (by omega) hy
    · show (40 - IntKind.i64.wrap (i + 1)).toNat < (40 - i).toNat
      rw [wI (by omega) (by omega)]; omega
end Go.Proofs.Ytckkcgkgfkgfdaa.AM
