/- The law BookRates over its contracts. -/
import Derived.Test.YtckkcgkgfkgfdaaCL1
set_option linter.unusedVariables false
set_option linter.unusedSimpArgs false
namespace Go.Proofs.Ytckkcgkgfkgfdaa.AM
open Ytckkcgkgfkgfdaa
set_option maxRecDepth 20000
set_option maxHeartbeats 8000000
theorem c14k {P : Program} (hP : Try.prog = P) (g f : Bool) (c : Cfg) (b : Bk) (h3 : ∀ r ∈ b.rows, r.nums.length ≤ 1000000000000) (o : Ordr) (nx : Nat) : ACalls P 14 [eCfg g f c, eBk b, eOrd o] [] nx (fun v ob n => ∃ k, v = .int false .i64 k ∧ k = bLook c b o ∧ ob = []) :=
  (c14 hP g f c b h3 o nx).mono fun v ob n h => ⟨_, h.1, rfl, h.2⟩
theorem wk6 (rate : Int) : Wks [.agg [.int true .i64 0, .int true .i64 0, .int false .i64 rate, .int true .i64 0, .val (.slice none 0 0), .val (.slice none 0 0), .val (.slice none 0 0)]] [eCfg true false ⟨0, 0, rate, 0, [], [], []⟩] :=
  Wks.cons (Wk.agg (Wks.cons (unl_wk _) (Wks.cons (unl_wk _) (Wks.cons (unl_wk _) (Wks.cons (unl_wk _) (Wks.cons (Wk.nil_mlist 2 true false Nod eNod dNod) (Wks.cons (Wk.nil_mlist 1 true false Int eI 0) (Wks.cons (Wk.nil_mlist 4 true false Sym eSym dSym) Wks.nil)))))))) Wks.nil
theorem rates_look {c : Cfg} {b : Bk} {S last count i k n : Int} (hr : b.rows = [⟨[], last, count⟩]) (ht : c.table = 64) (ho : b.opn.length ≤ i) (hi : i < 60) (hk : k = bLook c b ⟨0, 0, false, 10, 1, n, S⟩) : (S < last ∨ S = last ∧ c.rate ≤ count) ∧ k = 10 ∨ ¬(S < last ∨ S = last ∧ c.rate ≤ count) ∧ k = 0 := by
  have hrow : rowAt b 0 = ⟨[], last, count⟩ := by
    unfold rowAt
    rw [if_neg (by decide), hr]
    rfl
  have e : bLook c b ⟨0, 0, false, 10, 1, n, S⟩ = if S < last ∨ S = last ∧ c.rate ≤ count then 10 else 0 := by
    unfold bLook
    show (if n ∈ (rowAt b 0).nums then _ else if S < (rowAt b 0).second ∨ S = (rowAt b 0).second ∧ c.rate ≤ (rowAt b 0).count then _ else if c.table ≤ b.opn.length then _ else _) = _
    rw [hrow]
    show (if n ∈ ([] : List Int) then _ else if S < last ∨ S = last ∧ c.rate ≤ count then _ else if c.table ≤ b.opn.length then _ else _) = _
    rw [if_neg (by simp), if_neg (c := c.table ≤ (b.opn.length : Int)) (by omega)]
  rw [e] at hk
  split at hk
  · exact .inl ⟨by assumption, hk⟩
  · exact .inr ⟨by assumption, hk⟩
theorem rates_add {c : Cfg} {b y : Bk} {S last count n : Int} (hr : b.rows = [⟨[], last, count⟩]) (hw : c.window = 0) (hy : y = bAdd c b ⟨0, 0, false, 10, 1, n, S⟩ 0) : y.rows = [⟨[], S, if last = S then IntKind.i64.wrap (count + 1) else 1⟩] ∧ y.opn.length = b.opn.length + 1 := by
  subst hy
  refine ⟨?_, by simp [bAdd]⟩
  show (if (0 : Int) ≤ 0 ∧ (0 : Int) < b.rows.length then b.rows.set (0 : Int).toNat (rowWith (b.rows.getD (0 : Int).toNat dRow) c.window ⟨0, 0, false, 10, 1, n, S⟩) else b.rows) = _
  rw [hr, hw, if_pos ⟨Int.le_refl 0, by simp⟩]
  rfl
theorem rates_nums {rows : List BRow} {last count : Int} (hr : rows = [⟨[], last, count⟩]) : ∀ r ∈ rows, r.nums.length ≤ 1000000000000 := fun r h => by
  rw [hr] at h
  simp only [List.mem_singleton] at h
  subst h
  exact Nat.zero_le _
theorem c4 {P : Program} (hP : Try.prog = P) (rate : Int) (g f : Bool) (l : List Int) (hl : l.length ≤ maxLen) (nx : Nat) : ACalls P 4 [.int false .i64 rate, .mlist 1 g f Int eI 0 l] [] nx (fun v _ _ => v = .bool true) := by
  have hl : l.length ≤ 9223372036854775807 := hl
  have h0 : (0 : Nat) < 9223372036854775807 := by decide
  subst hP
  refine acalls_go (nm := []) (pl := []) (c := code Try.f4) tab_ok mixed Try.func4 (by kernel_rfl) (by kernel_rfl) (by kernel_rfl) ?_
  intro O P Q hO hP hQ
  have hsame : ∀ a, O.neq a a = true := fun a => by rw [← hO]; simp [real]
  obtain ⟨nadd, nsub, nmul, nquo, nrem, nbits, nshl, nshr, nwrap, nmax, nmin, nlt, nle, neq, nnot, nbeq, nband, ni2n, nn2i, ninb, nnadd, nnsub, nnle, nnlt, nneq, nlen, nget, nupd, napp, ntak, ndrp, nspl, nrep, nnth, nmlen, ncut, nemap, nslen, nsidx, nscut, nscat, nseq, nfcmp, ni2f⟩ := O
  replace hsame : ∀ a, nneq a a = true := hsame
  cbv
  repeat' (first | exact hsame _ | refine And.intro ?_ ?_ | (refine ACalls.afr (wk6 rate) (c6 hP true false ⟨0, 0, rate, 0, [], [], []⟩ h0 h0 h0 _) ?_; rintro _ _ _ ⟨⟨a1, a2, a3, a4, ns, ac, sy⟩, rfl, hfx, rfl⟩; cbv) | (refine ACalls.afr (args' := [eCfg true false ⟨a1, 0, a3, 64, ns, ac, sy⟩]) (unls_wk _) (c8 hP true false ⟨a1, 0, a3, 64, ns, ac, sy⟩ (okLen hfx.ok).1 (okLen hfx.ok).2.1 (okLen hfx.ok).2.2.1 _) ?_; rintro _ _ _ ⟨rfl, rfl⟩; cbv) | (refine ACalls.afr (args' := [eCfg true false ⟨a1, 0, a3, 64, ns, ac, sy⟩, .int false .i64 0]) (unls_wk _) (c9 hP true false ⟨a1, 0, a3, 64, ns, ac, sy⟩ (okLen hfx.ok).2.2.1 0 _) ?_; rintro _ _ _ ⟨⟨bs, bc, br, bo⟩, rfl, hb, rfl⟩; cbv) | (split <;> (rename_i hc; (try rw [hc]); (try cbv))))
  try clear hI I
  try clear hμ μ
  obtain ⟨I, hI⟩ : ∃ I : St → Prop, I = (fun s => ∃ (last count i : Int) (x5 x6 x7 n : Nat) (s1 c1 : Int) (rows : List BRow) (opn : List BEnt), s = ⟨[(1, .mlist 1 g f Int eI 0 l), (5, .ptr 1005 x5 0), (6, .ptr 1006 x6 0), (7, .ptr 1007 x7 0), (8, .int false .i64 last), (9, .int false .i64 count), (10, .int false .i64 i)], [⟨1005, x5, .box 29 [.int false .i64 a1, .int true .i64 0, .int false .i64 a3, .int true .i64 64, .mlist 2 true false Nod eNod dNod ns, .mlist 1 true false Int eI 0 ac, .mlist 4 true false Sym eSym dSym sy]⟩, ⟨1006, x6, .box 39 [.int false .i64 a1, .int false .i64 0, .int false .i64 a3, .int false .i64 64, .mlist 2 true false Nod eNod dNod ns, .mlist 1 true false Int eI 0 ac, .mlist 4 true false Sym eSym dSym sy]⟩, ⟨1007, x7, .box 44 [.int false .i64 s1, .int false .i64 c1, .mlist 3 true false BRow eRow dRow rows, .mlist 11 true false BEnt eEnt dEnt opn]⟩], n⟩ ∧ rows = [⟨[], last, count⟩] ∧ opn.length ≤ i ∧ 0 ≤ i ∧ i ≤ 60 ∧ 0 ≤ count ∧ count ≤ i) := ⟨_, rfl⟩
  obtain ⟨μ, hμ⟩ : ∃ μ : St → Nat, μ = (fun s => match s.tm with | _ :: _ :: _ :: _ :: _ :: _ :: (_, .int _ _ i) :: _ => (60 - i).toNat | _ => 0) := ⟨_, rfl⟩
  refine ⟨[1, 5, 6, 7, 8, 9, 10], [1005, 1006, 1007], I, μ, ?_, ?_⟩
  · cbv
    simp only [real, Num.mk.injEq] at hO
    obtain ⟨rfl, rfl, rfl, rfl, rfl, rfl, rfl, rfl, rfl, rfl, rfl, rfl, rfl, rfl, rfl, rfl, rfl, rfl, rfl, rfl, rfl, rfl, rfl, rfl, rfl, rfl, rfl, rfl, rfl, rfl, rfl, rfl, rfl, rfl, rfl, rfl, rfl, rfl, rfl, rfl, rfl, rfl, rfl, rfl⟩ := hO
    subst hQ
    try subst hI
    try subst hμ
    clear hsame
    try dsimp only at *
    try simp only [nc] at *
    try simp only [Int.ofNat_eq_natCast, decide_eq_true_eq, decide_eq_false_iff_not, Bool.and_eq_true, beq_iff_eq, beq_eq_false_iff_ne, ne_eq, Bool.false_eq_true, reduceCtorEq, Nat.add_eq, Nat.sub_eq, Nat.blt_eq, Nat.ble_eq, Nat.zero_add, Nat.add_zero, Bool.not_eq_true', Bool.not_eq_false', fEnt, fRow, fNod, fSym] at *
    have hac : ac.length = 1 := hfx.many
    obtain ⟨rfl, rfl, rfl, rfl⟩ := Bk.mk.inj hb
    exact WI.now ⟨0, 0, 0, _, _, _, _, _, _, _, _, rfl, by rw [show (⟨a1, 0, a3, 64, ns, ac, sy⟩ : Cfg).accounts.length = 1 from hac]; rfl, by decide, by decide, by decide, by decide, by decide⟩
  · intro s₀ h₀
    rw [hI] at h₀
    obtain ⟨last, count, i, x5, x6, x7, n, s1, c1, rows, opn, rfl, hr, ho, hi0, hi1, hc0, hc1⟩ := h₀
    cbv
    repeat' (first | exact hsame _ | refine And.intro ?_ ?_ | (refine ACalls.afr (args' := [eOrd ⟨0, 0, false, 10, 1, i, _⟩]) (unls_wk _) (c10 hP ⟨0, 0, false, 10, 1, i, _⟩ _) ?_; rintro _ _ _ ⟨rfl, rfl⟩; cbv) | (refine (c14k hP true false ⟨a1, 0, a3, 64, ns, ac, sy⟩ ⟨s1, c1, rows, opn⟩ ?_ ⟨0, 0, false, 10, 1, i, _⟩ _).fr ?_; all_goals try (rintro _ _ _ ⟨k, rfl, hk, rfl⟩; cbv)) | (refine ACalls.afr (args' := [eCfg true false ⟨a1, 0, a3, 64, ns, ac, sy⟩, eBk ⟨s1, c1, rows, opn⟩, eOrd ⟨0, 0, false, 10, 1, i, _⟩, .int false .i64 0]) (unls_wk _) (c11 hP true false ⟨a1, 0, a3, 64, ns, ac, sy⟩ ?_ ?_ ⟨s1, c1, rows, opn⟩ ?_ ?_ ?_ ⟨0, 0, false, 10, 1, i, _⟩ 0 _) ?_; all_goals try (rintro _ _ _ ⟨⟨ys, yc, yr, yo⟩, w, rfl, hy, hw, rfl⟩; cbv)) | (refine (c12 hP _).fr ?_; rintro _ _ _ ⟨rfl, rfl⟩; cbv) | (split <;> (rename_i hc; (try rw [hc]); (try cbv))))
    all_goals
      simp only [real, Num.mk.injEq] at hO
      obtain ⟨rfl, rfl, rfl, rfl, rfl, rfl, rfl, rfl, rfl, rfl, rfl, rfl, rfl, rfl, rfl, rfl, rfl, rfl, rfl, rfl, rfl, rfl, rfl, rfl, rfl, rfl, rfl, rfl, rfl, rfl, rfl, rfl, rfl, rfl, rfl, rfl, rfl, rfl, rfl, rfl, rfl, rfl, rfl, rfl⟩ := hO
      subst hQ
      try subst hI
      try subst hμ
      clear hsame
      try dsimp only at *
      try simp only [nc] at *
      try simp only [Int.ofNat_eq_natCast, decide_eq_true_eq, decide_eq_false_iff_not, Bool.and_eq_true, beq_iff_eq, beq_eq_false_iff_ne, ne_eq, Bool.false_eq_true, reduceCtorEq, Nat.add_eq, Nat.sub_eq, Nat.blt_eq, Nat.ble_eq, Nat.zero_add, Nat.add_zero, Bool.not_eq_true', Bool.not_eq_false', fEnt, fRow, fNod, fSym] at *
    all_goals have hSb := umod (l.getD i.toNat 0) (k := 1000) (by decide) (by decide)
    all_goals generalize IntKind.i64.wrap ((IntKind.u64.wrap (l.getD i.toNat 0)).tmod 1000) = S at *
    all_goals try (have hkk := rates_look (c := ⟨a1, 0, a3, 64, ns, ac, sy⟩) (b := ⟨s1, c1, rows, opn⟩) hr rfl ho (by omega) hk)
    all_goals try (have hyy := rates_add (c := ⟨a1, 0, a3, 64, ns, ac, sy⟩) (b := ⟨s1, c1, rows, opn⟩) (y := ⟨ys, yc, yr, yo⟩) hr rfl hy)
    all_goals try (have hyr : yr = _ := hyy.1)
    all_goals try (have hyo : yo.length = opn.length + 1 := hyy.2)
    all_goals have hrl : rows.length = 1 := by rw [hr]; rfl
    all_goals try (replace hkk : (S < last ∨ S = last ∧ a3 ≤ count) ∧ k = 10 ∨ ¬(S < last ∨ S = last ∧ a3 ≤ count) ∧ k = 0 := hkk)
    all_goals try (first | omega | decide | (simp only [List.length_cons, List.length_nil, List.length_map, List.length_append, eqb_iff]; omega))
    all_goals try exact rates_nums hr
    all_goals try exact FQ.done rfl
    all_goals try (exfalso; omega)
    all_goals try (exfalso; rcases hkk with ⟨h1, h2⟩ | ⟨h1, h2⟩ <;> (first | omega | (subst h2; simp at *; omega) | (subst h2; simp at *; done)))
    any_goals
      refine WD.now ⟨_, _, _, _, _, _, _, _, _, yr, yo, rfl, ?_, ?_, ?_, ?_, ?_, ?_⟩ ?_
      · rw [hyr]
        first | rw [if_neg (by omega)] | (have e : S = last := by omega
                                          subst e
                                          rw [if_pos rfl])
      · rw [wI (by omega) (by omega)]; omega
      · rw [wI (by omega) (by omega)]; omega
      · rw [wI (by omega) (by omega)]; omega
      · first | decide | (rw [wI (by omega) (by omega)]; omega)
      · first | omega | (rw [wI (x := i + 1) (by omega) (by omega)]; first | omega | (rw [wI (by omega) (by omega)]; omega))
      · show (60 - IntKind.i64.wrap (i + 1)).toNat < (60 - i).toNat
        rw [wI (by omega) (by omega)]; omega
    any_goals
      refine WD.now ⟨_, _, _, _, _, _, _, _, _, rows, opn, rfl, hr, ?_, ?_, ?_, hc0, ?_⟩ ?_
      · rw [wI (by omega) (by omega)]; omega
      · rw [wI (by omega) (by omega)]; omega
      · rw [wI (by omega) (by omega)]; omega
      · rw [wI (by omega) (by omega)]; omega
      · show (60 - IntKind.i64.wrap (i + 1)).toNat < (60 - i).toNat
        rw [wI (by omega) (by omega)]; omega
end Go.Proofs.Ytckkcgkgfkgfdaa.AM
