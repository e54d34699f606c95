/- Contracts: the Configs of a law: as the program has them. -/
import Derived.Test.YtckkcgkgfkgfdaaCF1
set_option linter.unusedVariables false
set_option linter.unusedSimpArgs false
namespace Go.Proofs.Ytckkcgkgfkgfdaa.AM
open Ytckkcgkgfkgfdaa
set_option maxRecDepth 20000
theorem c10 {P : Program} (hP : Try.prog = P) (o : Ordr) (nx : Nat) : ACalls P 10 [eOrd o] [] nx (fun v ob n => v = eOrd o ∧ ob = []) := by
  obtain ⟨acct, sym, sell, price, qty, number, second⟩ := o
  subst hP
  refine acalls_go (nm := []) (pl := []) (c := code Try.f10) tab_ok mixed Try.func10 (by kernel_rfl) (by kernel_rfl) (by kernel_rfl) ?_
  intro O P Q hO hP hQ
  have hsame : ∀ a, O.neq a a = true := fun a => by rw [← hO]; simp [real]
  obtain ⟨nadd, nsub, nmul, nquo, nrem, nbits, nshl, nshr, nwrap, nmax, nmin, nlt, nle, neq, nnot, nbeq, nband, ni2n, nn2i, ninb, nnadd, nnsub, nnle, nnlt, nneq, nlen, nget, nupd, napp, ntak, ndrp, nspl, nrep, nnth, nmlen, ncut, nemap, nslen, nsidx, nscut, nscat, nseq, nfcmp, ni2f⟩ := O
  replace hsame : ∀ a, nneq a a = true := hsame
  cbv
  repeat' (first | exact hsame _ | refine And.intro ?_ ?_ | (split <;> (rename_i hc; (try rw [hc]); (try cbv))))
  all_goals
    simp only [real, Num.mk.injEq] at hO
    obtain ⟨rfl, rfl, rfl, rfl, rfl, rfl, rfl, rfl, rfl, rfl, rfl, rfl, rfl, rfl, rfl, rfl, rfl, rfl, rfl, rfl, rfl, rfl, rfl, rfl, rfl, rfl, rfl, rfl, rfl, rfl, rfl, rfl, rfl, rfl, rfl, rfl, rfl, rfl, rfl, rfl, rfl, rfl, rfl, rfl⟩ := hO
    subst hQ
    try subst hI
    try subst hμ
    clear hsame
    try dsimp only at *
    try simp only [nc] at *
    try simp only [Int.ofNat_eq_natCast, decide_eq_true_eq, decide_eq_false_iff_not, Bool.and_eq_true, beq_iff_eq, beq_eq_false_iff_ne, ne_eq, Bool.false_eq_true, reduceCtorEq, Nat.add_eq, Nat.sub_eq, Nat.blt_eq, Nat.ble_eq, Nat.zero_add, Nat.add_zero, Bool.not_eq_true', Bool.not_eq_false', fEnt, fRow, fNod, fSym] at *
  exact FQ.forget (FQ.done ⟨rfl, rfl⟩)
theorem c24 {P : Program} (hP : Try.prog = P) (b : Int) (nx : Nat) : ACalls P 24 [.int false .u64 b] [] nx (fun v o n => v = .val (.float .f64 b.toNat) ∧ o = []) := by
  subst hP
  refine ⟨fun φ H F w vs hR hvs => .inr ⟨.float .f64 b.toNat, ?_, ?_⟩⟩
  · obtain ⟨u, us, rfl, h1, h2⟩ := hvs
    have h1 : u = .int .u64 b := h1
    have h2 : us = [] := h2
    subst h1 h2
    exact (run_callFunc_extern (e := Extern.MathFloatBits.float64frombits) Try.func24 (by kernel_rfl) (by kernel_rfl) (by kernel_rfl) (by kernel_rfl) _ w).trans rfl
  · exact ⟨_, _, nx, φ, H, ⟨rfl, rfl⟩, Ext.refl _ _ _ _ _, hR, rfl⟩
def fRight (b : Nat) : Bool := fcmpOf .geq .f64 b 0
theorem c23 {P : Program} (hP : Try.prog = P) (b : Nat) (nx : Nat) : ACalls P 23 [.val (.float .f64 b)] [] nx (fun v o n => ∃ z, v = .bool z ∧ z = fRight b ∧ o = []) := by
  subst hP
  refine acalls_go (nm := []) (pl := []) (c := code Try.f23) tab_ok mixed Try.func23 (by kernel_rfl) (by kernel_rfl) (by kernel_rfl) ?_
  intro O P Q hO hP hQ
  have hsame : ∀ a, O.neq a a = true := fun a => by rw [← hO]; simp [real]
  obtain ⟨nadd, nsub, nmul, nquo, nrem, nbits, nshl, nshr, nwrap, nmax, nmin, nlt, nle, neq, nnot, nbeq, nband, ni2n, nn2i, ninb, nnadd, nnsub, nnle, nnlt, nneq, nlen, nget, nupd, napp, ntak, ndrp, nspl, nrep, nnth, nmlen, ncut, nemap, nslen, nsidx, nscut, nscat, nseq, nfcmp, ni2f⟩ := O
  replace hsame : ∀ a, nneq a a = true := hsame
  cbv
  repeat' (first | exact hsame _ | refine And.intro ?_ ?_ | (split <;> (rename_i hc; (try rw [hc]); (try cbv))))
  all_goals
    simp only [real, Num.mk.injEq] at hO
    obtain ⟨rfl, rfl, rfl, rfl, rfl, rfl, rfl, rfl, rfl, rfl, rfl, rfl, rfl, rfl, rfl, rfl, rfl, rfl, rfl, rfl, rfl, rfl, rfl, rfl, rfl, rfl, rfl, rfl, rfl, rfl, rfl, rfl, rfl, rfl, rfl, rfl, rfl, rfl, rfl, rfl, rfl, rfl, rfl, rfl⟩ := hO
    subst hQ
    try subst hI
    try subst hμ
    clear hsame
    try dsimp only at *
    try simp only [nc] at *
    try simp only [Int.ofNat_eq_natCast, decide_eq_true_eq, decide_eq_false_iff_not, Bool.and_eq_true, beq_iff_eq, beq_eq_false_iff_ne, ne_eq, Bool.false_eq_true, reduceCtorEq, Nat.add_eq, Nat.sub_eq, Nat.blt_eq, Nat.ble_eq, Nat.zero_add, Nat.add_zero, Bool.not_eq_true', Bool.not_eq_false', fEnt, fRow, fNod, fSym] at *
  exact FQ.done ⟨_, rfl, rfl, rfl⟩
theorem c25 {P : Program} (hP : Try.prog = P) (gd fu : Bool) (l : List Nod) (hl : l.length ≤ 1000000000000) (nx : Nat) : ACalls P 25 [.mlist 2 gd fu Nod eNod dNod l] [] nx (fun v o n => v = .mlist 2 true false Nod eNod dNod l ∧ o = []) := by
  subst hP
  refine acalls_go (nm := []) (pl := pl25) (c := code Try.f25) tab_ok mixed Try.func25 (by kernel_rfl) (by kernel_rfl) (by exact pl25_ok) ?_
  intro O P Q hO hP hQ
  have hsame : ∀ a, O.neq a a = true := fun a => by rw [← hO]; simp [real]
  obtain ⟨nadd, nsub, nmul, nquo, nrem, nbits, nshl, nshr, nwrap, nmax, nmin, nlt, nle, neq, nnot, nbeq, nband, ni2n, nn2i, ninb, nnadd, nnsub, nnle, nnlt, nneq, nlen, nget, nupd, napp, ntak, ndrp, nspl, nrep, nnth, nmlen, ncut, nemap, nslen, nsidx, nscut, nscat, nseq, nfcmp, ni2f⟩ := O
  replace hsame : ∀ a, nneq a a = true := hsame
  cbv
  try clear hI I
  try clear hμ μ
  obtain ⟨I, hI⟩ : ∃ I : St → Prop, I = (fun s => ∃ (m b : Nat) (i : Int) (n : Nat) (out : List Nod), s = ⟨[(0, .mlist 2 gd fu Nod eNod dNod l), (3, .own 1024 b 2 0 m), (4, .int false .i64 i)], [⟨1024, b, .row 106 2 (.mlist 2 true true Nod eNod dNod out)⟩], n⟩ ∧ out = l.take m ∧ i = m ∧ m ≤ l.length) := ⟨_, rfl⟩
  obtain ⟨μ, hμ⟩ : ∃ μ : St → Nat, μ = (fun s => match s.tm with | _ :: (_, .own _ _ _ _ m) :: _ => l.length - m | _ => 0) := ⟨_, rfl⟩
  refine ⟨[0, 3, 4], [1024], I, μ, ?_, ?_⟩
  · cbv
    simp only [real, Num.mk.injEq] at hO
    obtain ⟨rfl, rfl, rfl, rfl, rfl, rfl, rfl, rfl, rfl, rfl, rfl, rfl, rfl, rfl, rfl, rfl, rfl, rfl, rfl, rfl, rfl, rfl, rfl, rfl, rfl, rfl, rfl, rfl, rfl, rfl, rfl, rfl, rfl, rfl, rfl, rfl, rfl, rfl, rfl, rfl, rfl, rfl, rfl, rfl⟩ := hO
    subst hQ
    try subst hI
    try subst hμ
    clear hsame
    try dsimp only at *
    try simp only [nc] at *
    try simp only [Int.ofNat_eq_natCast, decide_eq_true_eq, decide_eq_false_iff_not, Bool.and_eq_true, beq_iff_eq, beq_eq_false_iff_ne, ne_eq, Bool.false_eq_true, reduceCtorEq, Nat.add_eq, Nat.sub_eq, Nat.blt_eq, Nat.ble_eq, Nat.zero_add, Nat.add_zero, Bool.not_eq_true', Bool.not_eq_false', fEnt, fRow, fNod, fSym] at *
    refine WI.sf (Sf.wk _ (TmW.cons (Wk.refl _) (TmW.cons (Wk.nil_own 1024 nx 2) (TmW.cons (Wk.refl _) .nil))) (ObW.refl _)) (WI.sf (Sf.virt _ _ _ 1024 (.row 106 2 (.mlist 2 true true Nod eNod dNod []))) (WI.now ⟨0, _, _, _, [], rfl, rfl, rfl, Nat.zero_le _⟩))
  · intro s₀ h₀
    rw [hI] at h₀
    obtain ⟨m, b, i, n, out, rfl, ho, hi, h0⟩ := h₀
    cbv
    repeat' (first | exact hsame _ | refine And.intro ?_ ?_ | (split <;> (rename_i hc; (try rw [hc]); (try cbv))))
    all_goals
      simp only [real, Num.mk.injEq] at hO
      obtain ⟨rfl, rfl, rfl, rfl, rfl, rfl, rfl, rfl, rfl, rfl, rfl, rfl, rfl, rfl, rfl, rfl, rfl, rfl, rfl, rfl, rfl, rfl, rfl, rfl, rfl, rfl, rfl, rfl, rfl, rfl, rfl, rfl, rfl, rfl, rfl, rfl, rfl, rfl, rfl, rfl, rfl, rfl, rfl, rfl⟩ := hO
      subst hQ
      try subst hI
      try subst hμ
      clear hsame
      try dsimp only at *
      try simp only [nc] at *
      try simp only [Int.ofNat_eq_natCast, decide_eq_true_eq, decide_eq_false_iff_not, Bool.and_eq_true, beq_iff_eq, beq_eq_false_iff_ne, ne_eq, Bool.false_eq_true, reduceCtorEq, Nat.add_eq, Nat.sub_eq, Nat.blt_eq, Nat.ble_eq, Nat.zero_add, Nat.add_zero, Bool.not_eq_true', Bool.not_eq_false', fEnt, fRow, fNod, fSym] at *
    all_goals try (first | omega | decide | (simp only [List.length_cons, List.length_nil, List.length_map, List.length_append, eqb_iff]; omega))
    · simp [ho]; omega
    · have hm : m < l.length := by omega
      have hi' : i.toNat = m := by omega
      refine WD.sf (Sf.wk _ (TmW.refl _) (ObW.cons (WkO.eq (l := (out ++ [l.getD i.toNat dNod]).map eNod) (c' := .mlist 2 true true Nod eNod dNod (out ++ [l.getD i.toNat dNod])) (congrArg some (app1 eNod out (l.getD i.toNat dNod))) rfl) .nil)) (WD.now ⟨_, _, _, _, _, rfl, ?_, by rw [wI (by omega) (by omega)]; omega, by omega⟩ (show l.length - (m + 1) < l.length - m by omega))
      rw [ho, hi', List.take_succ_eq_append_getElem hm, List.getD_eq_getElem?_getD, List.getElem?_eq_getElem hm]
      rfl
    · refine FQ.frz 1024 rfl ?_ ?_
      rotate_left
      simp only [tupOf, frz, frzs, isIt, eqb_self, cond_true, cond_false, cutSeq, delOb]
      rotate_right
      simp only [tupOf, frzC, frzCs, isIt, eqb_self, cond_true, cond_false, seqLe, real, List.append_nil, List.nil_append, List.mem_cons, List.not_mem_nil, or_false, forall_eq, List.cons_append]
      · simp [ho]; omega
      refine FQ.wk (Wk.recode (l' := l) (enc' := eNod) (d' := dNod) ?_) (FQ.forget (FQ.done ⟨rfl, rfl⟩))
      have hm : m = l.length := by omega
      simp [real, ho, hm]
def eSymB (s : Sym) : AV := .agg [.int false .i64 s.price, .int false .i64 s.qty, .int false .i64 s.worth, .int false .u64 s.band]
def eConf (g f : Bool) (c : Cfg) : AV := .agg [.int false .i64 c.shards, .int false .i64 c.window, .int false .i64 c.rate, .int false .i64 c.table, .mlist 2 g f Nod eNod dNod c.nodes, .mlist 1 g f Int eI 0 c.accounts, .mlist 4 g f Sym eSymB dSym c.symbols]
theorem c7 {P : Program} (hP : Try.prog = P) (g f : Bool) (c : Cfg) (hl : c.symbols.length ≤ 4398046511104) (nx : Nat) : ACalls P 7 [eConf g f c] [] nx (fun v o n => v = eCfg g f c ∧ o = []) := by
  obtain ⟨c1, c2, c3, c4, c5, c6, l⟩ := c
  have hl : l.length ≤ 4398046511104 := hl
  subst hP
  refine acalls_go (nm := []) (pl := pl7) (c := code Try.f7) tab_ok mixed Try.func7 (by kernel_rfl) (by kernel_rfl) (by exact pl7_ok) ?_
  intro O P Q hO hP hQ
  have hsame : ∀ a, O.neq a a = true := fun a => by rw [← hO]; simp [real]
  obtain ⟨nadd, nsub, nmul, nquo, nrem, nbits, nshl, nshr, nwrap, nmax, nmin, nlt, nle, neq, nnot, nbeq, nband, ni2n, nn2i, ninb, nnadd, nnsub, nnle, nnlt, nneq, nlen, nget, nupd, napp, ntak, ndrp, nspl, nrep, nnth, nmlen, ncut, nemap, nslen, nsidx, nscut, nscat, nseq, nfcmp, ni2f⟩ := O
  replace hsame : ∀ a, nneq a a = true := hsame
  cbv
  repeat' (first | exact hsame _ | refine And.intro ?_ ?_ | (split <;> (rename_i hc; (try rw [hc]); (try cbv))))
  try clear hI I
  try clear hμ μ
  obtain ⟨I, hI⟩ : ∃ I : St → Prop, I = (fun s => ∃ (i : Int) (m b x1 x2 x3 n : Nat) (out : List Sym), s = ⟨[(1, .ptr 1001 x1 0), (2, .ptr 1002 x2 0), (3, .ptr 1003 x3 0), (4, .int false .i64 i)], [⟨1044, b, .row 34 4 (.mlist 4 true true Sym eSym dSym out)⟩, ⟨1001, x1, .box 26 [.int false .i64 c1, .int false .i64 c2, .int false .i64 c3, .int false .i64 c4, .mlist 2 g f Nod eNod dNod c5, .mlist 1 g f Int eI 0 c6, .mlist 4 g f Sym eSymB dSym l]⟩, ⟨1002, x2, .box 29 [.int true .i64 0, .int true .i64 0, .int true .i64 0, .int true .i64 0, .val (.slice none 0 0), .val (.slice none 0 0), .val (.slice none 0 0)]⟩, ⟨1003, x3, .box 29 [.int false .i64 c1, .int false .i64 c2, .int false .i64 c3, .int false .i64 c4, .mlist 2 g f Nod eNod dNod c5, .mlist 1 g f Int eI 0 c6, .own 1044 b 4 0 m]⟩], n⟩ ∧ out = l.take m ∧ i = m ∧ m ≤ l.length) := ⟨_, rfl⟩
  obtain ⟨μ, hμ⟩ : ∃ μ : St → Nat, μ = (fun s => match s.tm with | _ :: _ :: _ :: (_, .int _ _ i) :: _ => (l.length - i).toNat | _ => 0) := ⟨_, rfl⟩
  refine ⟨[1, 2, 3, 4], [1044, 1001, 1002, 1003], I, μ, ?_, ?_⟩
  · cbv
    simp only [real, Num.mk.injEq] at hO
    obtain ⟨rfl, rfl, rfl, rfl, rfl, rfl, rfl, rfl, rfl, rfl, rfl, rfl, rfl, rfl, rfl, rfl, rfl, rfl, rfl, rfl, rfl, rfl, rfl, rfl, rfl, rfl, rfl, rfl, rfl, rfl, rfl, rfl, rfl, rfl, rfl, rfl, rfl, rfl, rfl, rfl, rfl, rfl, rfl, rfl⟩ := hO
    subst hQ
    try subst hI
    try subst hμ
    clear hsame
    try dsimp only at *
    try simp only [nc] at *
    try simp only [Int.ofNat_eq_natCast, decide_eq_true_eq, decide_eq_false_iff_not, Bool.and_eq_true, beq_iff_eq, beq_eq_false_iff_ne, ne_eq, Bool.false_eq_true, reduceCtorEq, Nat.add_eq, Nat.sub_eq, Nat.blt_eq, Nat.ble_eq, Nat.zero_add, Nat.add_zero, Bool.not_eq_true', Bool.not_eq_false', fEnt, fRow, fNod, fSym] at *
    refine WI.sf (Sf.virt _ _ _ 1044 (.row 34 4 (.mlist 4 true true Sym eSym dSym []))) (WI.sf (Sf.wk _ (TmW.refl _) (ObW.cons (WkO.refl _) (ObW.cons (WkO.refl _) (ObW.cons (WkO.refl _) (ObW.cons (WkO.box (Wks.cons (Wk.refl _) (Wks.cons (Wk.refl _) (Wks.cons (Wk.refl _) (Wks.cons (Wk.refl _) (Wks.cons (Wk.refl _) (Wks.cons (Wk.refl _) (Wks.cons (Wk.nil_own 1044 _ 4) Wks.nil)))))))) .nil))))) (WI.now ⟨_, 0, _, _, _, _, _, [], rfl, rfl, rfl, Nat.zero_le _⟩))
  · intro s₀ h₀
    rw [hI] at h₀
    obtain ⟨i, m, b, x1, x2, x3, n, out, rfl, ho, hi, h0⟩ := h₀
    cbv
    repeat' (first | exact hsame _ | refine And.intro ?_ ?_ | (refine (c24 hP _ _).fr ?_; rintro _ _ _ ⟨rfl, rfl⟩; cbv) | (split <;> (rename_i hc; (try rw [hc]); (try cbv))))
    all_goals
      simp only [real, Num.mk.injEq] at hO
      obtain ⟨rfl, rfl, rfl, rfl, rfl, rfl, rfl, rfl, rfl, rfl, rfl, rfl, rfl, rfl, rfl, rfl, rfl, rfl, rfl, rfl, rfl, rfl, rfl, rfl, rfl, rfl, rfl, rfl, rfl, rfl, rfl, rfl, rfl, rfl, rfl, rfl, rfl, rfl, rfl, rfl, rfl, rfl, rfl, rfl⟩ := hO
      subst hQ
      try subst hI
      try subst hμ
      clear hsame
      try dsimp only at *
      try simp only [nc] at *
      try simp only [Int.ofNat_eq_natCast, decide_eq_true_eq, decide_eq_false_iff_not, Bool.and_eq_true, beq_iff_eq, beq_eq_false_iff_ne, ne_eq, Bool.false_eq_true, reduceCtorEq, Nat.add_eq, Nat.sub_eq, Nat.blt_eq, Nat.ble_eq, Nat.zero_add, Nat.add_zero, Bool.not_eq_true', Bool.not_eq_false', fEnt, fRow, fNod, fSym] at *
    all_goals try (first | omega | decide | (simp only [List.length_cons, List.length_nil, List.length_map, List.length_append, eqb_iff]; omega))
    · simp [ho]; omega
    · have hm : m < l.length := by omega
      have hi' : i.toNat = m := by omega
      refine WD.sf (Sf.wk _ (TmW.refl _) (ObW.cons (WkO.eq (l := (out ++ [l.getD i.toNat dSym]).map eSym) (c' := .mlist 4 true true Sym eSym dSym (out ++ [l.getD i.toNat dSym])) (congrArg some (app1 eSym out (l.getD i.toNat dSym))) rfl) (ObW.refl _))) (WD.now ⟨_, _, _, _, _, _, _, _, rfl, ?_, by rw [wI (by omega) (by omega)]; omega, by omega⟩ ?_)
      · rw [ho, hi', List.take_succ_eq_append_getElem hm, List.getD_eq_getElem?_getD, List.getElem?_eq_getElem hm]
        rfl
      · show ((l.length : Int) - IntKind.i64.wrap (i + 1)).toNat < ((l.length : Int) - i).toNat
        rw [wI (by omega) (by omega)]
        omega
    · refine FQ.frz 1044 rfl ?_ ?_
      rotate_left
      simp only [tupOf, frz, frzs, isIt, eqb_self, cond_true, cond_false, cutSeq, delOb]
      rotate_right
      simp only [tupOf, frzC, frzCs, isIt, eqb_self, cond_true, cond_false, seqLe, real, List.append_nil, List.nil_append, List.mem_cons, List.not_mem_nil, or_false, forall_eq, List.cons_append]
      · simp [ho]; omega
      refine FQ.wk (Wk.agg (Wks.cons (Wk.refl _) (Wks.cons (Wk.refl _) (Wks.cons (Wk.refl _) (Wks.cons (Wk.refl _) (Wks.cons (Wk.refl _) (Wks.cons (Wk.refl _) (Wks.cons (Wk.recode (l' := l) (enc' := eSym) (d' := dSym) ?_) Wks.nil)))))))) (FQ.forget (FQ.done ⟨rfl, rfl⟩))
      have hm : m = l.length := by omega
      simp [real, ho, hm]
theorem c8 {P : Program} (hP : Try.prog = P) (g f : Bool) (c : Cfg) (h1 : c.symbols.length ≤ 1000000000000) (h2 : c.nodes.length ≤ 1000000000000) (h3 : c.accounts.length ≤ 1000000000000) (nx : Nat) : ACalls P 8 [eCfg g f c] [] nx (fun v o n => v = eCfg true false c ∧ o = []) := by
  obtain ⟨c1, c2, c3, c4, c5, c6, l⟩ := c
  have h1 : l.length ≤ 1000000000000 := h1
  have h2 : c5.length ≤ 1000000000000 := h2
  have h3 : c6.length ≤ 1000000000000 := h3
  subst hP
  refine acalls_go (nm := []) (pl := pl8) (c := code Try.f8) tab_ok mixed Try.func8 (by kernel_rfl) (by kernel_rfl) (by exact pl8_ok) ?_
  intro O P Q hO hP hQ
  have hsame : ∀ a, O.neq a a = true := fun a => by rw [← hO]; simp [real]
  obtain ⟨nadd, nsub, nmul, nquo, nrem, nbits, nshl, nshr, nwrap, nmax, nmin, nlt, nle, neq, nnot, nbeq, nband, ni2n, nn2i, ninb, nnadd, nnsub, nnle, nnlt, nneq, nlen, nget, nupd, napp, ntak, ndrp, nspl, nrep, nnth, nmlen, ncut, nemap, nslen, nsidx, nscut, nscat, nseq, nfcmp, ni2f⟩ := O
  replace hsame : ∀ a, nneq a a = true := hsame
  cbv
  repeat' (first | exact hsame _ | refine And.intro ?_ ?_ | (refine (c25 hP _ _ _ h2 _).fr ?_; rintro _ _ _ ⟨rfl, rfl⟩; cbv) | (split <;> (rename_i hc; (try rw [hc]); (try cbv))))
  any_goals
    simp only [real, Num.mk.injEq] at hO
    obtain ⟨rfl, rfl, rfl, rfl, rfl, rfl, rfl, rfl, rfl, rfl, rfl, rfl, rfl, rfl, rfl, rfl, rfl, rfl, rfl, rfl, rfl, rfl, rfl, rfl, rfl, rfl, rfl, rfl, rfl, rfl, rfl, rfl, rfl, rfl, rfl, rfl, rfl, rfl, rfl, rfl, rfl, rfl, rfl, rfl⟩ := hO
    subst hQ
    try subst hI
    try subst hμ
    clear hsame
    try dsimp only at *
    try simp only [nc] at *
    try simp only [Int.ofNat_eq_natCast, decide_eq_true_eq, decide_eq_false_iff_not, Bool.and_eq_true, beq_iff_eq, beq_eq_false_iff_ne, ne_eq, Bool.false_eq_true, reduceCtorEq, Nat.add_eq, Nat.sub_eq, Nat.blt_eq, Nat.ble_eq, Nat.zero_add, Nat.add_zero, Bool.not_eq_true', Bool.not_eq_false', fEnt, fRow, fNod, fSym] at *
    first | omega | decide | (simp only [List.length_cons, List.length_nil, List.length_map, List.length_append, eqb_iff]; omega)
  try clear hI I
  try clear hμ μ
  obtain ⟨I, hI⟩ : ∃ I : St → Prop, I = (fun s => ∃ (i : Int) (m b x1 x2 x3 y k n : Nat) (out : List Sym), s = ⟨[(1, .ptr 1001 x1 0), (2, .ptr 1002 x2 0), (3, .ptr 1003 x3 0), (4, .int false .i64 i)], [⟨1046, b, .row 88 4 (.mlist 4 true true Sym eSym dSym out)⟩, ⟨1001, x1, .box 29 [.int false .i64 c1, .int false .i64 c2, .int false .i64 c3, .int false .i64 c4, .mlist 2 g f Nod eNod dNod c5, .mlist 1 g f Int eI 0 c6, .mlist 4 true false Sym eSym dSym l]⟩, ⟨1002, x2, .box 39 [.int true .i64 0, .int true .i64 0, .int true .i64 0, .int true .i64 0, .val (.slice none 0 0), .val (.slice none 0 0), .val (.slice none 0 0)]⟩, ⟨1003, x3, .box 39 [.int false .i64 c1, .int false .i64 c2, .int false .i64 c3, .int false .i64 c4, .mlist 2 true false Nod eNod dNod c5, .own 1017 y 1 0 k, .own 1046 b 4 0 m]⟩, ⟨1017, y, .row 3 1 (.mlist 1 true true Int eI 0 c6)⟩], n⟩ ∧ out = l.take m ∧ i = m ∧ m ≤ l.length ∧ k = c6.length) := ⟨_, rfl⟩
  obtain ⟨μ, hμ⟩ : ∃ μ : St → Nat, μ = (fun s => match s.tm with | _ :: _ :: _ :: (_, .int _ _ i) :: _ => (l.length - i).toNat | _ => 0) := ⟨_, rfl⟩
  refine ⟨[1, 2, 3, 4], [1046, 1001, 1002, 1003, 1017], I, μ, ?_, ?_⟩
  · cbv
    simp only [real, Num.mk.injEq] at hO
    obtain ⟨rfl, rfl, rfl, rfl, rfl, rfl, rfl, rfl, rfl, rfl, rfl, rfl, rfl, rfl, rfl, rfl, rfl, rfl, rfl, rfl, rfl, rfl, rfl, rfl, rfl, rfl, rfl, rfl, rfl, rfl, rfl, rfl, rfl, rfl, rfl, rfl, rfl, rfl, rfl, rfl, rfl, rfl, rfl, rfl⟩ := hO
    subst hQ
    try subst hI
    try subst hμ
    clear hsame
    try dsimp only at *
    try simp only [nc] at *
    try simp only [Int.ofNat_eq_natCast, decide_eq_true_eq, decide_eq_false_iff_not, Bool.and_eq_true, beq_iff_eq, beq_eq_false_iff_ne, ne_eq, Bool.false_eq_true, reduceCtorEq, Nat.add_eq, Nat.sub_eq, Nat.blt_eq, Nat.ble_eq, Nat.zero_add, Nat.add_zero, Bool.not_eq_true', Bool.not_eq_false', fEnt, fRow, fNod, fSym] at *
    refine WI.sf (Sf.virt _ _ _ 1046 (.row 88 4 (.mlist 4 true true Sym eSym dSym []))) (WI.sf (Sf.wk _ (TmW.refl _) (ObW.cons (WkO.refl _) (ObW.cons (WkO.refl _) (ObW.cons (WkO.refl _) (ObW.cons (WkO.box (Wks.cons (Wk.refl _) (Wks.cons (Wk.refl _) (Wks.cons (Wk.refl _) (Wks.cons (Wk.refl _) (Wks.cons (Wk.refl _) (Wks.cons (Wk.refl _) (Wks.cons (Wk.nil_own 1046 _ 4) Wks.nil)))))))) (ObW.cons (WkO.eq (l := c6.map eI) (c' := .mlist 1 true true Int eI 0 c6) ?_ rfl) .nil)))))) (WI.now ⟨_, 0, _, _, _, _, _, _, _, [], rfl, rfl, rfl, Nat.zero_le _, ?_⟩))
    · simp [seqList]
    · simp
  · intro s₀ h₀
    rw [hI] at h₀
    obtain ⟨i, m, b, x1, x2, x3, y, k, n, out, rfl, ho, hi, h0, hk⟩ := h₀
    cbv
    repeat' (first | exact hsame _ | refine And.intro ?_ ?_ | (split <;> (rename_i hc; (try rw [hc]); (try cbv))))
    all_goals
      simp only [real, Num.mk.injEq] at hO
      obtain ⟨rfl, rfl, rfl, rfl, rfl, rfl, rfl, rfl, rfl, rfl, rfl, rfl, rfl, rfl, rfl, rfl, rfl, rfl, rfl, rfl, rfl, rfl, rfl, rfl, rfl, rfl, rfl, rfl, rfl, rfl, rfl, rfl, rfl, rfl, rfl, rfl, rfl, rfl, rfl, rfl, rfl, rfl, rfl, rfl⟩ := hO
      subst hQ
      try subst hI
      try subst hμ
      clear hsame
      try dsimp only at *
      try simp only [nc] at *
      try simp only [Int.ofNat_eq_natCast, decide_eq_true_eq, decide_eq_false_iff_not, Bool.and_eq_true, beq_iff_eq, beq_eq_false_iff_ne, ne_eq, Bool.false_eq_true, reduceCtorEq, Nat.add_eq, Nat.sub_eq, Nat.blt_eq, Nat.ble_eq, Nat.zero_add, Nat.add_zero, Bool.not_eq_true', Bool.not_eq_false', fEnt, fRow, fNod, fSym] at *
    all_goals try (first | omega | decide | (simp only [List.length_cons, List.length_nil, List.length_map, List.length_append, eqb_iff]; omega))
    · simp [ho]; omega
    · have hm : m < l.length := by omega
      have hi' : i.toNat = m := by omega
      refine WD.sf (Sf.wk _ (TmW.refl _) (ObW.cons (WkO.eq (l := (out ++ [l.getD i.toNat dSym]).map eSym) (c' := .mlist 4 true true Sym eSym dSym (out ++ [l.getD i.toNat dSym])) (congrArg some (app1 eSym out (l.getD i.toNat dSym))) rfl) (ObW.refl _))) (WD.now ⟨_, _, _, _, _, _, _, _, _, _, rfl, ?_, by rw [wI (by omega) (by omega)]; omega, by omega, hk⟩ ?_)
      · rw [ho, hi', List.take_succ_eq_append_getElem hm, List.getD_eq_getElem?_getD, List.getElem?_eq_getElem hm]
        rfl
      · show ((l.length : Int) - IntKind.i64.wrap (i + 1)).toNat < ((l.length : Int) - i).toNat
        rw [wI (by omega) (by omega)]
        omega
    · refine FQ.frz 1046 rfl ?_ ?_
      rotate_left
      simp only [tupOf, frz, frzs, isIt, eqb_self, cond_true, cond_false, cutSeq, delOb, show eqb 1046 1017 = false from rfl, show eqb 1017 1046 = false from rfl]
      rotate_right
      simp only [tupOf, frzC, frzCs, isIt, eqb_self, cond_true, cond_false, seqLe, real, List.append_nil, List.nil_append, List.mem_cons, List.not_mem_nil, or_false, forall_eq, List.cons_append, show eqb 1046 1017 = false from rfl, show eqb 1017 1046 = false from rfl]
      · simp [ho]; omega
      refine FQ.frz 1017 rfl ?_ ?_
      rotate_left
      simp only [tupOf, frz, frzs, isIt, eqb_self, cond_true, cond_false, cutSeq, delOb, show eqb 1017 1046 = false from rfl, show eqb 1046 1017 = false from rfl]
      rotate_right
      simp only [tupOf, frzC, frzCs, isIt, eqb_self, cond_true, cond_false, seqLe, real, List.append_nil, List.nil_append, List.mem_cons, List.not_mem_nil, or_false, forall_eq, List.cons_append, show eqb 1017 1046 = false from rfl, show eqb 1046 1017 = false from rfl]
      · simp; omega
      refine FQ.wk (Wk.agg (Wks.cons (Wk.refl _) (Wks.cons (Wk.refl _) (Wks.cons (Wk.refl _) (Wks.cons (Wk.refl _) (Wks.cons (Wk.refl _) (Wks.cons (Wk.recode (l' := c6) (enc' := eI) (d' := (0 : Int)) ?_) (Wks.cons (Wk.recode (l' := l) (enc' := eSym) (d' := dSym) ?_) Wks.nil)))))))) (FQ.forget (FQ.done ⟨rfl, rfl⟩))
      · simp [real, hk]
      · have hm : m = l.length := by omega
        simp [real, ho, hm]
end Go.Proofs.Ytckkcgkgfkgfdaa.AM
