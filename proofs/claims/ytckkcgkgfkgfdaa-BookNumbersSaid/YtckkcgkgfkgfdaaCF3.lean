/- Contracts: the Configs of a law: one that may be. -/
import Derived.Test.YtckkcgkgfkgfdaaCF2
set_option linter.unusedVariables false
set_option linter.unusedSimpArgs false
namespace Go.Proofs.Ytckkcgkgfkgfdaa.AM
open Ytckkcgkgfkgfdaa
set_option maxRecDepth 20000
set_option maxHeartbeats 4000000
structure OkSym (s : Sym) : Prop where
  price : 1 ≤ s.price ∧ s.price ≤ 1099511627776
  qty : 1 ≤ s.qty ∧ s.qty ≤ 1099511627776
  worth : 0 ≤ s.worth
  band : fRight s.band = true
structure OkCfg (c : Cfg) : Prop where
  shards : 1 ≤ c.shards ∧ c.shards ≤ 3
  window : 0 ≤ c.window ∧ c.window ≤ 3
  rate : 1 ≤ c.rate ∧ c.rate ≤ 6
  table : 1 ≤ c.table ∧ c.table ≤ 8
  tree : OkTree c.nodes
  nodes : 1 ≤ c.nodes.length ∧ c.nodes.length ≤ 10
  accounts : 1 ≤ c.accounts.length ∧ c.accounts.length ≤ 5
  account : ∀ a ∈ c.accounts, 0 ≤ a ∧ a < c.nodes.length
  symbols : 1 ≤ c.symbols.length ∧ c.symbols.length ≤ 3
  symbol : ∀ s ∈ c.symbols, OkSym s
theorem fRight_half : fRight 4602678819172646912 = true := by decide +kernel
theorem umod (c : Int) {k : Int} (h : 1 ≤ k) (h2 : k ≤ 9223372036854775807) : 0 ≤ IntKind.i64.wrap ((IntKind.u64.wrap c).tmod k) ∧ IntKind.i64.wrap ((IntKind.u64.wrap c).tmod k) < k := by
  have hu : 0 ≤ IntKind.u64.wrap c := by rw [wU']; omega
  have h3 := Int.emod_nonneg (IntKind.u64.wrap c) (show k ≠ 0 by omega)
  have h4 := Int.emod_lt_of_pos (IntKind.u64.wrap c) (show 0 < k by omega)
  rw [Int.tmod_eq_emod_of_nonneg hu, wI (by omega) (by omega)]
  exact ⟨h3, h4⟩
theorem umod1 (c : Int) {k : Int} (h : 1 ≤ k) (h2 : k ≤ 1099511627776) : 1 ≤ IntKind.i64.wrap (1 + IntKind.i64.wrap ((IntKind.u64.wrap c).tmod k)) ∧ IntKind.i64.wrap (1 + IntKind.i64.wrap ((IntKind.u64.wrap c).tmod k)) ≤ k := by
  have := umod c h (by omega)
  rw [wI (by omega) (by omega)]
  omega
structure FixOf (c c' : Cfg) : Prop where
  ok : OkCfg c'
  many : c'.accounts.length = if c.accounts.length = 0 then 1 else min 5 c.accounts.length
  nodes : c.nodes = [] → c'.nodes = [⟨-1, 1000⟩]
  accounts : c.accounts = [] → c'.accounts = [(c'.nodes.length : Int) - 1]
  symbols : c.symbols = [] → c'.symbols = [⟨10, 100, 1000, 4602678819172646912⟩]
theorem c6 {P : Program} (hP : Try.prog = P) (g f : Bool) (c : Cfg) (h1 : c.symbols.length < 9223372036854775807) (h2 : c.nodes.length < 9223372036854775807) (h3 : c.accounts.length < 9223372036854775807) (nx : Nat) : ACalls P 6 [eCfg g f c] [] nx (fun v o n => ∃ c', v = eCfg true false c' ∧ FixOf c c' ∧ o = []) := by
  obtain ⟨c1, c2, c3, c4, c5, c6, l⟩ := c
  have h1 : l.length < 9223372036854775807 := h1
  have h2 : c5.length < 9223372036854775807 := h2
  have h3 : c6.length < 9223372036854775807 := h3
  subst hP
  refine acalls_go (nm := [(61, 6001), (71, 6001)]) (pl := pl6) (c := code Try.f6) tab_ok mixed Try.func6 (by kernel_rfl) (by kernel_rfl) (by exact pl6_ok) ?_
  intro O P Q hO hP hQ
  have hsame : ∀ a, O.neq a a = true := fun a => by rw [← hO]; simp [real]
  obtain ⟨nadd, nsub, nmul, nquo, nrem, nbits, nshl, nshr, nwrap, nmax, nmin, nlt, nle, neq, nnot, nbeq, nband, ni2n, nn2i, ninb, nnadd, nnsub, nnle, nnlt, nneq, nlen, nget, nupd, napp, ntak, ndrp, nspl, nrep, nnth, nmlen, ncut, nemap, nslen, nsidx, nscut, nscat, nseq, nfcmp, ni2f⟩ := O
  replace hsame : ∀ a, nneq a a = true := hsame
  cbv
  repeat' (first | exact hsame _ | refine And.intro ?_ ?_ | (refine (c22 hP _ _ _ h2 _).fr ?_; rintro _ _ _ ⟨ns, rfl, hns, hn1, hn2, hn3, rfl⟩; cbv) | (split <;> (rename_i hc; (try rw [hc]); (try cbv))))
  any_goals
    simp only [real, Num.mk.injEq] at hO
    obtain ⟨rfl, rfl, rfl, rfl, rfl, rfl, rfl, rfl, rfl, rfl, rfl, rfl, rfl, rfl, rfl, rfl, rfl, rfl, rfl, rfl, rfl, rfl, rfl, rfl, rfl, rfl, rfl, rfl, rfl, rfl, rfl, rfl, rfl, rfl, rfl, rfl, rfl, rfl, rfl, rfl, rfl, rfl, rfl, rfl⟩ := hO
    subst hQ
    try subst hI
    try subst hμ
    clear hsame
    try dsimp only at *
    try simp only [nc] at *
    try simp only [Int.ofNat_eq_natCast, decide_eq_true_eq, decide_eq_false_iff_not, Bool.and_eq_true, beq_iff_eq, beq_eq_false_iff_ne, ne_eq, Bool.false_eq_true, reduceCtorEq, Nat.add_eq, Nat.sub_eq, Nat.blt_eq, Nat.ble_eq, Nat.zero_add, Nat.add_zero, Bool.not_eq_true', Bool.not_eq_false', fEnt, fRow, fNod, fSym] at *
    first | omega | decide | (simp only [List.length_cons, List.length_nil, List.length_map, List.length_append, eqb_iff]; omega)
  try clear hI I
  try clear hμ μ
  obtain ⟨I, hI⟩ : ∃ I : St → Prop, I = (fun s => ∃ (i : Int) (m b x1 x2 x3 n : Nat) (a1 a2 a3 a4 : Int) (out : List Int), s = ⟨[(1, .ptr 1001 x1 0), (2, .ptr 1002 x2 0), (3, .ptr 1003 x3 0), (4, .int false .i64 i)], [⟨6001, b, .row 3 1 (.mlist 1 true true Int eI 0 out)⟩, ⟨1001, x1, .box 29 [.int false .i64 c1, .int false .i64 c2, .int false .i64 c3, .int false .i64 c4, .mlist 2 g f Nod eNod dNod c5, .mlist 1 g f Int eI 0 c6, .mlist 4 true false Sym eSym dSym l]⟩, ⟨1002, x2, .box 29 [.int true .i64 0, .int true .i64 0, .int true .i64 0, .int true .i64 0, .val (.slice none 0 0), .val (.slice none 0 0), .val (.slice none 0 0)]⟩, ⟨1003, x3, .box 29 [.int false .i64 a1, .int false .i64 a2, .int false .i64 a3, .int false .i64 a4, .mlist 2 true false Nod eNod dNod ns, .own 6001 b 1 0 m, .val (.slice none 0 0)]⟩], n⟩ ∧ m = out.length ∧ i = m ∧ m ≤ 5 ∧ m ≤ c6.length ∧ (1 ≤ a1 ∧ a1 ≤ 3) ∧ (0 ≤ a2 ∧ a2 ≤ 3) ∧ (1 ≤ a3 ∧ a3 ≤ 6) ∧ (1 ≤ a4 ∧ a4 ≤ 8) ∧ ∀ a ∈ out, 0 ≤ a ∧ a < ns.length) := ⟨_, rfl⟩
  obtain ⟨μ, hμ⟩ : ∃ μ : St → Nat, μ = (fun s => match s.tm with | _ :: _ :: _ :: (_, .int _ _ i) :: _ => (5 - i).toNat | _ => 0) := ⟨_, rfl⟩
  refine ⟨[1, 2, 3, 4], [6001, 1001, 1002, 1003], I, μ, ?_, ?_⟩
  · cbv
    simp only [real, Num.mk.injEq] at hO
    obtain ⟨rfl, rfl, rfl, rfl, rfl, rfl, rfl, rfl, rfl, rfl, rfl, rfl, rfl, rfl, rfl, rfl, rfl, rfl, rfl, rfl, rfl, rfl, rfl, rfl, rfl, rfl, rfl, rfl, rfl, rfl, rfl, rfl, rfl, rfl, rfl, rfl, rfl, rfl, rfl, rfl, rfl, rfl, rfl, rfl⟩ := hO
    subst hQ
    try subst hI
    try subst hμ
    clear hsame
    try dsimp only at *
    try simp only [nc] at *
    try simp only [Int.ofNat_eq_natCast, decide_eq_true_eq, decide_eq_false_iff_not, Bool.and_eq_true, beq_iff_eq, beq_eq_false_iff_ne, ne_eq, Bool.false_eq_true, reduceCtorEq, Nat.add_eq, Nat.sub_eq, Nat.blt_eq, Nat.ble_eq, Nat.zero_add, Nat.add_zero, Bool.not_eq_true', Bool.not_eq_false', fEnt, fRow, fNod, fSym] at *
    refine WI.sf (Sf.virt _ _ _ 6001 (.row 3 1 (.mlist 1 true true Int eI 0 []))) (WI.sf (Sf.wk _ (TmW.refl _) (ObW.cons (WkO.refl _) (ObW.cons (WkO.refl _) (ObW.cons (WkO.refl _) (ObW.cons (WkO.box (Wks.cons (Wk.refl _) (Wks.cons (Wk.refl _) (Wks.cons (Wk.refl _) (Wks.cons (Wk.refl _) (Wks.cons (Wk.refl _) (Wks.cons (Wk.nil_own 6001 _ 1) (Wks.refl _)))))))) .nil))))) (WI.now ⟨_, 0, _, _, _, _, _, _, _, _, _, [], rfl, rfl, rfl, by decide, Nat.zero_le _, umod1 _ (by decide) (by decide), ?_, umod1 _ (by decide) (by decide), umod1 _ (by decide) (by decide), fun a ha => by simp at ha⟩))
    have := umod c2 (k := 4) (by decide) (by decide)
    omega
  · intro s₀ h₀
    rw [hI] at h₀
    obtain ⟨i, m, b, x1, x2, x3, n, a1, a2, a3, a4, out, rfl, hm, hi, h0, hmc, ha1, ha2, ha3, ha4, hal⟩ := h₀
    cbv
    repeat' (first | exact hsame _ | refine And.intro ?_ ?_ | (split <;> (rename_i hc; (try rw [hc]); (try cbv))))
    any_goals
      simp only [real, Num.mk.injEq] at hO
      obtain ⟨rfl, rfl, rfl, rfl, rfl, rfl, rfl, rfl, rfl, rfl, rfl, rfl, rfl, rfl, rfl, rfl, rfl, rfl, rfl, rfl, rfl, rfl, rfl, rfl, rfl, rfl, rfl, rfl, rfl, rfl, rfl, rfl, rfl, rfl, rfl, rfl, rfl, rfl, rfl, rfl, rfl, rfl, rfl, rfl⟩ := hO
      subst hQ
      try subst hI
      try subst hμ
      clear hsame
      try dsimp only at *
      try simp only [nc] at *
      try simp only [Int.ofNat_eq_natCast, decide_eq_true_eq, decide_eq_false_iff_not, Bool.and_eq_true, beq_iff_eq, beq_eq_false_iff_ne, ne_eq, Bool.false_eq_true, reduceCtorEq, Nat.add_eq, Nat.sub_eq, Nat.blt_eq, Nat.ble_eq, Nat.zero_add, Nat.add_zero, Bool.not_eq_true', Bool.not_eq_false', fEnt, fRow, fNod, fSym] at *
      first | omega | decide | (simp only [List.length_cons, List.length_nil, List.length_map, List.length_append, eqb_iff]; omega)
    · simp only [real, Num.mk.injEq] at hO
      obtain ⟨rfl, rfl, rfl, rfl, rfl, rfl, rfl, rfl, rfl, rfl, rfl, rfl, rfl, rfl, rfl, rfl, rfl, rfl, rfl, rfl, rfl, rfl, rfl, rfl, rfl, rfl, rfl, rfl, rfl, rfl, rfl, rfl, rfl, rfl, rfl, rfl, rfl, rfl, rfl, rfl, rfl, rfl, rfl, rfl⟩ := hO
      subst hQ
      try subst hI
      try subst hμ
      clear hsame
      try dsimp only at *
      try simp only [nc] at *
      try simp only [Int.ofNat_eq_natCast, decide_eq_true_eq, decide_eq_false_iff_not, Bool.and_eq_true, beq_iff_eq, beq_eq_false_iff_ne, ne_eq, Bool.false_eq_true, reduceCtorEq, Nat.add_eq, Nat.sub_eq, Nat.blt_eq, Nat.ble_eq, Nat.zero_add, Nat.add_zero, Bool.not_eq_true', Bool.not_eq_false', fEnt, fRow, fNod, fSym] at *
      rw [wU (by omega) (by omega)]
      omega
    · simp only [real, Num.mk.injEq] at hO
      obtain ⟨rfl, rfl, rfl, rfl, rfl, rfl, rfl, rfl, rfl, rfl, rfl, rfl, rfl, rfl, rfl, rfl, rfl, rfl, rfl, rfl, rfl, rfl, rfl, rfl, rfl, rfl, rfl, rfl, rfl, rfl, rfl, rfl, rfl, rfl, rfl, rfl, rfl, rfl, rfl, rfl, rfl, rfl, rfl, rfl⟩ := hO
      subst hQ
      try subst hI
      try subst hμ
      clear hsame
      try dsimp only at *
      try simp only [nc] at *
      try simp only [Int.ofNat_eq_natCast, decide_eq_true_eq, decide_eq_false_iff_not, Bool.and_eq_true, beq_iff_eq, beq_eq_false_iff_ne, ne_eq, Bool.false_eq_true, reduceCtorEq, Nat.add_eq, Nat.sub_eq, Nat.blt_eq, Nat.ble_eq, Nat.zero_add, Nat.add_zero, Bool.not_eq_true', Bool.not_eq_false', fEnt, fRow, fNod, fSym] at *
      have hx := umod (c6.getD i.toNat 0) (k := IntKind.u64.wrap (ns.length : Int)) (by rw [wU (by omega) (by omega)]; omega) (by rw [wU (by omega) (by omega)]; omega)
      rw [wU (x := (ns.length : Int)) (by omega) (by omega)] at hx
      refine WD.sf (Sf.wk _ (TmW.refl _) (ObW.cons (WkO.eq (l := (out ++ [IntKind.i64.wrap ((IntKind.u64.wrap (c6.getD i.toNat 0)).tmod (IntKind.u64.wrap (ns.length : Int)))]).map eI) (c' := .mlist 1 true true Int eI 0 (out ++ [IntKind.i64.wrap ((IntKind.u64.wrap (c6.getD i.toNat 0)).tmod (IntKind.u64.wrap (ns.length : Int)))])) (congrArg some (app1 eI out (IntKind.i64.wrap ((IntKind.u64.wrap (c6.getD i.toNat 0)).tmod (IntKind.u64.wrap (ns.length : Int)))))) rfl) (ObW.refl _))) (WD.now ⟨_, _, _, _, _, _, _, _, _, _, _, _, rfl, by simp; omega, by rw [wI (by omega) (by omega)]; omega, by omega, by omega, ha1, ha2, ha3, ha4, fun a ha => ?_⟩ ?_)
      · rcases List.mem_append.1 ha with ha | ha
        · exact hal a ha
        · simp only [List.mem_singleton] at ha
          rw [ha, wU (x := (ns.length : Int)) (by omega) (by omega)]
          exact hx
      · show (5 - IntKind.i64.wrap (i + 1)).toNat < (5 - i).toNat
        rw [wI (by omega) (by omega)]
        omega
    · try clear hI I
      try clear hμ μ
      obtain ⟨I, hI⟩ : ∃ I : St → Prop, I = (fun s => ∃ (i : Int) (m b x1 x2 x3 y k n : Nat) (out : List Sym) (ac : List Int), s = ⟨[(1, .ptr 1001 x1 0), (2, .ptr 1002 x2 0), (3, .ptr 1003 x3 0), (5, .int false .i64 i)], [⟨1119, b, .row 34 4 (.mlist 4 true true Sym eSym dSym out)⟩, ⟨1001, x1, .box 29 [.int false .i64 c1, .int false .i64 c2, .int false .i64 c3, .int false .i64 c4, .mlist 2 g f Nod eNod dNod c5, .mlist 1 g f Int eI 0 c6, .mlist 4 true false Sym eSym dSym l]⟩, ⟨1002, x2, .box 29 [.int true .i64 0, .int true .i64 0, .int true .i64 0, .int true .i64 0, .val (.slice none 0 0), .val (.slice none 0 0), .val (.slice none 0 0)]⟩, ⟨1003, x3, .box 29 [.int false .i64 a1, .int false .i64 a2, .int false .i64 a3, .int false .i64 a4, .mlist 2 true false Nod eNod dNod ns, .own 6001 y 1 0 k, .own 1119 b 4 0 m]⟩, ⟨6001, y, .row 3 1 (.mlist 1 true true Int eI 0 ac)⟩], n⟩ ∧ m = out.length ∧ i = m ∧ m ≤ 3 ∧ m ≤ l.length ∧ k = ac.length ∧ 1 ≤ k ∧ k ≤ 5 ∧ k = (if c6.length = 0 then 1 else min 5 c6.length) ∧ (c6 = [] → ac = [(ns.length : Int) - 1]) ∧ (∀ a ∈ ac, 0 ≤ a ∧ a < ns.length) ∧ (∀ x ∈ out, OkSym x)) := ⟨_, rfl⟩
      obtain ⟨μ, hμ⟩ : ∃ μ : St → Nat, μ = (fun s => match s.tm with | _ :: _ :: _ :: (_, .int _ _ i) :: _ => (3 - i).toNat | _ => 0) := ⟨_, rfl⟩
      refine ⟨[1, 2, 3, 5], [1119, 1001, 1002, 1003, 6001], I, μ, ?_, ?_⟩
      · cbv
        simp only [real, Num.mk.injEq] at hO
        obtain ⟨rfl, rfl, rfl, rfl, rfl, rfl, rfl, rfl, rfl, rfl, rfl, rfl, rfl, rfl, rfl, rfl, rfl, rfl, rfl, rfl, rfl, rfl, rfl, rfl, rfl, rfl, rfl, rfl, rfl, rfl, rfl, rfl, rfl, rfl, rfl, rfl, rfl, rfl, rfl, rfl, rfl, rfl, rfl, rfl⟩ := hO
        subst hQ
        try subst hI
        try subst hμ
        clear hsame
        try dsimp only at *
        try simp only [nc] at *
        try simp only [Int.ofNat_eq_natCast, decide_eq_true_eq, decide_eq_false_iff_not, Bool.and_eq_true, beq_iff_eq, beq_eq_false_iff_ne, ne_eq, Bool.false_eq_true, reduceCtorEq, Nat.add_eq, Nat.sub_eq, Nat.blt_eq, Nat.ble_eq, Nat.zero_add, Nat.add_zero, Bool.not_eq_true', Bool.not_eq_false', fEnt, fRow, fNod, fSym] at *
        refine WI.sf (Sf.virt _ _ _ 1119 (.row 34 4 (.mlist 4 true true Sym eSym dSym []))) (WI.sf (Sf.wk _ (TmW.refl _) (ObW.cons (WkO.refl _) (ObW.cons (WkO.refl _) (ObW.cons (WkO.refl _) (ObW.cons (WkO.box (Wks.cons (Wk.refl _) (Wks.cons (Wk.refl _) (Wks.cons (Wk.refl _) (Wks.cons (Wk.refl _) (Wks.cons (Wk.refl _) (Wks.cons (Wk.refl _) (Wks.cons (Wk.nil_own 1119 _ 4) Wks.nil)))))))) (ObW.cons (WkO.refl _) .nil)))))) (WI.now ⟨_, 0, _, _, _, _, _, _, _, [], out, rfl, rfl, rfl, by decide, Nat.zero_le _, hm, by omega, by omega, (by split <;> omega), (fun e => by subst e; simp only [List.length_nil] at *; omega), hal, fun x hx => by simp at hx⟩))
      · intro s₀ h₀
        rw [hI] at h₀
        obtain ⟨i, m, b, x1, x2, x3, y, k, n, out, ac, rfl, hm, hi, h0, hml, hk, hk1, hk2, hk3, hk4, hac, hok⟩ := h₀
        cbv
        repeat' (first | exact hsame _ | refine And.intro ?_ ?_ | (refine (c23 hP _ _).fr ?_; rintro _ _ _ ⟨z, rfl, hz, rfl⟩; cbv) | (split <;> (rename_i hc; (try rw [hc]); (try cbv))))
        any_goals
          simp only [real, Num.mk.injEq] at hO
          obtain ⟨rfl, rfl, rfl, rfl, rfl, rfl, rfl, rfl, rfl, rfl, rfl, rfl, rfl, rfl, rfl, rfl, rfl, rfl, rfl, rfl, rfl, rfl, rfl, rfl, rfl, rfl, rfl, rfl, rfl, rfl, rfl, rfl, rfl, rfl, rfl, rfl, rfl, rfl, rfl, rfl, rfl, rfl, rfl, rfl⟩ := hO
          subst hQ
          try subst hI
          try subst hμ
          clear hsame
          try dsimp only at *
          try simp only [nc] at *
          try simp only [Int.ofNat_eq_natCast, decide_eq_true_eq, decide_eq_false_iff_not, Bool.and_eq_true, beq_iff_eq, beq_eq_false_iff_ne, ne_eq, Bool.false_eq_true, reduceCtorEq, Nat.add_eq, Nat.sub_eq, Nat.blt_eq, Nat.ble_eq, Nat.zero_add, Nat.add_zero, Bool.not_eq_true', Bool.not_eq_false', fEnt, fRow, fNod, fSym] at *
          first | omega | decide | (simp only [List.length_cons, List.length_nil, List.length_map, List.length_append, eqb_iff]; omega)
        all_goals
          simp only [real, Num.mk.injEq] at hO
          obtain ⟨rfl, rfl, rfl, rfl, rfl, rfl, rfl, rfl, rfl, rfl, rfl, rfl, rfl, rfl, rfl, rfl, rfl, rfl, rfl, rfl, rfl, rfl, rfl, rfl, rfl, rfl, rfl, rfl, rfl, rfl, rfl, rfl, rfl, rfl, rfl, rfl, rfl, rfl, rfl, rfl, rfl, rfl, rfl, rfl⟩ := hO
          subst hQ
          try subst hI
          try subst hμ
          clear hsame
          try dsimp only at *
          try simp only [nc] at *
          try simp only [Int.ofNat_eq_natCast, decide_eq_true_eq, decide_eq_false_iff_not, Bool.and_eq_true, beq_iff_eq, beq_eq_false_iff_ne, ne_eq, Bool.false_eq_true, reduceCtorEq, Nat.add_eq, Nat.sub_eq, Nat.blt_eq, Nat.ble_eq, Nat.zero_add, Nat.add_zero, Bool.not_eq_true', Bool.not_eq_false', fEnt, fRow, fNod, fSym] at *
        any_goals
          refine WD.sf (Sf.wk _ (TmW.refl _) (ObW.cons (WkO.row (c' := .mlist 4 true true Sym eSym dSym (out ++ [⟨_, _, _, _⟩])) rfl rfl (app1w out ⟨_, _, _, _⟩ (unl_wk _))) (ObW.refl _))) (WD.now ⟨_, _, _, _, _, _, _, _, _, _, _, rfl, by simp; omega, by rw [wI (by omega) (by omega)]; omega, by omega, by omega, hk, hk1, hk2, hk3, hk4, hac, fun x hx => ?_⟩ ?_)
          · rcases List.mem_append.1 hx with hx | hx
            · exact hok x hx
            · simp only [List.mem_singleton] at hx
              subst hx
              refine ⟨umod1 _ (by decide) (by decide), umod1 _ (by decide) (by decide), ?_, ?_⟩
              · first | (show (0 : Int) ≤ 9223372036854775807; decide) | exact Int.not_lt.1 (of_decide_eq_false (by assumption))
              · first | exact fRight_half | (rw [hz] at *; assumption) | exact hz.symm.trans (by assumption)
          · show (3 - IntKind.i64.wrap (i + 1)).toNat < (3 - i).toNat
            rw [wI (by omega) (by omega)]
            omega
        · refine FQ.frz 1119 rfl ?_ ?_
          rotate_left
          simp only [tupOf, frz, frzs, isIt, eqb_self, cond_true, cond_false, cutSeq, delOb, show eqb 1119 6001 = false from rfl, show eqb 6001 1119 = false from rfl]
          rotate_right
          simp only [tupOf, frzC, frzCs, isIt, eqb_self, cond_true, cond_false, seqLe, real, List.append_nil, List.nil_append, List.mem_cons, List.not_mem_nil, or_false, forall_eq, List.cons_append, show eqb 1119 6001 = false from rfl, show eqb 6001 1119 = false from rfl]
          · simp; omega
          refine FQ.frz 6001 rfl ?_ ?_
          rotate_left
          simp only [tupOf, frz, frzs, isIt, eqb_self, cond_true, cond_false, cutSeq, delOb, show eqb 6001 1119 = false from rfl, show eqb 1119 6001 = false from rfl]
          rotate_right
          simp only [tupOf, frzC, frzCs, isIt, eqb_self, cond_true, cond_false, seqLe, real, List.append_nil, List.nil_append, List.mem_cons, List.not_mem_nil, or_false, forall_eq, List.cons_append, show eqb 6001 1119 = false from rfl, show eqb 1119 6001 = false from rfl]
          · simp; omega
          refine FQ.wk (Wk.agg (Wks.cons (Wk.refl _) (Wks.cons (Wk.refl _) (Wks.cons (Wk.refl _) (Wks.cons (Wk.refl _) (Wks.cons (Wk.refl _) (Wks.cons (Wk.recode (l' := ac) (enc' := eI) (d' := (0 : Int)) ?_) (Wks.cons (Wk.recode (l' := out) (enc' := eSym) (d' := dSym) ?_) Wks.nil)))))))) (FQ.forget (FQ.done ⟨⟨a1, a2, a3, a4, ns, ac, out⟩, rfl, ⟨⟨ha1, ha2, ha3, ha4, hns, ⟨hn1, hn2⟩, ⟨?_, ?_⟩, hac, ⟨?_, ?_⟩, hok⟩, hk ▸ hk3, hn3, hk4, fun e => (by replace e : l = [] := e; subst e; simp only [List.length_nil] at hml; omega)⟩, rfl⟩))
          · simp [real, hk]
          · simp [real, hm]
          · show 1 ≤ ac.length
            omega
          · show ac.length ≤ 5
            omega
          · show 1 ≤ out.length
            omega
          · show out.length ≤ 3
            omega
        · refine FQ.frz 1126 rfl ?_ ?_
          rotate_left
          simp only [tupOf, frz, frzs, isIt, eqb_self, cond_true, cond_false, cutSeq, delOb, show eqb 1126 6001 = false from rfl, show eqb 6001 1126 = false from rfl]
          rotate_right
          simp only [tupOf, frzC, frzCs, isIt, eqb_self, cond_true, cond_false, seqLe, real, List.append_nil, List.nil_append, List.mem_cons, List.not_mem_nil, or_false, forall_eq, List.cons_append, show eqb 1126 6001 = false from rfl, show eqb 6001 1126 = false from rfl]
          · simp
          refine FQ.frz 6001 rfl ?_ ?_
          rotate_left
          simp only [tupOf, frz, frzs, isIt, eqb_self, cond_true, cond_false, cutSeq, delOb, show eqb 6001 1126 = false from rfl, show eqb 1126 6001 = false from rfl]
          rotate_right
          simp only [tupOf, frzC, frzCs, isIt, eqb_self, cond_true, cond_false, seqLe, real, List.append_nil, List.nil_append, List.mem_cons, List.not_mem_nil, or_false, forall_eq, List.cons_append, show eqb 6001 1126 = false from rfl, show eqb 1126 6001 = false from rfl]
          · simp; omega
          refine FQ.wk (Wk.agg (Wks.cons (Wk.refl _) (Wks.cons (Wk.refl _) (Wks.cons (Wk.refl _) (Wks.cons (Wk.refl _) (Wks.cons (Wk.refl _) (Wks.cons (Wk.recode (l' := ac) (enc' := eI) (d' := (0 : Int)) ?_) (Wks.cons (Wk.mlist_els (l := [⟨10, 100, 1000, 4602678819172646912⟩]) (enc := eSym) (d := dSym) (Wks.cons (unl_wk _) Wks.nil)) Wks.nil)))))))) (FQ.forget (FQ.done ⟨⟨a1, a2, a3, a4, ns, ac, [⟨10, 100, 1000, 4602678819172646912⟩]⟩, rfl, ⟨⟨ha1, ha2, ha3, ha4, hns, ⟨hn1, hn2⟩, ⟨?_, ?_⟩, hac, ⟨Nat.le_refl 1, Nat.le_add_left 1 2⟩, fun x hx => ?_⟩, hk ▸ hk3, hn3, hk4, fun _ => rfl⟩, rfl⟩))
          · simp [real, hk]
          · show 1 ≤ ac.length
            omega
          · show ac.length ≤ 5
            omega
          · simp only [List.mem_singleton] at hx
            subst hx
            exact ⟨by decide, by decide, by decide, fRight_half⟩
        · refine FQ.frz 1119 rfl ?_ ?_
          rotate_left
          simp only [tupOf, frz, frzs, isIt, eqb_self, cond_true, cond_false, cutSeq, delOb, show eqb 1119 6001 = false from rfl, show eqb 6001 1119 = false from rfl]
          rotate_right
          simp only [tupOf, frzC, frzCs, isIt, eqb_self, cond_true, cond_false, seqLe, real, List.append_nil, List.nil_append, List.mem_cons, List.not_mem_nil, or_false, forall_eq, List.cons_append, show eqb 1119 6001 = false from rfl, show eqb 6001 1119 = false from rfl]
          · simp; omega
          refine FQ.frz 6001 rfl ?_ ?_
          rotate_left
          simp only [tupOf, frz, frzs, isIt, eqb_self, cond_true, cond_false, cutSeq, delOb, show eqb 6001 1119 = false from rfl, show eqb 1119 6001 = false from rfl]
          rotate_right
          simp only [tupOf, frzC, frzCs, isIt, eqb_self, cond_true, cond_false, seqLe, real, List.append_nil, List.nil_append, List.mem_cons, List.not_mem_nil, or_false, forall_eq, List.cons_append, show eqb 6001 1119 = false from rfl, show eqb 1119 6001 = false from rfl]
          · simp; omega
          refine FQ.wk (Wk.agg (Wks.cons (Wk.refl _) (Wks.cons (Wk.refl _) (Wks.cons (Wk.refl _) (Wks.cons (Wk.refl _) (Wks.cons (Wk.refl _) (Wks.cons (Wk.recode (l' := ac) (enc' := eI) (d' := (0 : Int)) ?_) (Wks.cons (Wk.recode (l' := out) (enc' := eSym) (d' := dSym) ?_) Wks.nil)))))))) (FQ.forget (FQ.done ⟨⟨a1, a2, a3, a4, ns, ac, out⟩, rfl, ⟨⟨ha1, ha2, ha3, ha4, hns, ⟨hn1, hn2⟩, ⟨?_, ?_⟩, hac, ⟨?_, ?_⟩, hok⟩, hk ▸ hk3, hn3, hk4, fun e => (by replace e : l = [] := e; subst e; simp only [List.length_nil] at hml; omega)⟩, rfl⟩))
          · simp [real, hk]
          · simp [real, hm]
          · show 1 ≤ ac.length
            omega
          · show ac.length ≤ 5
            omega
          · show 1 ≤ out.length
            omega
          · show out.length ≤ 3
            omega
    · try clear hI I
      try clear hμ μ
      obtain ⟨I, hI⟩ : ∃ I : St → Prop, I = (fun s => ∃ (i : Int) (m b x1 x2 x3 y k n : Nat) (out : List Sym) (ac : List Int), s = ⟨[(1, .ptr 1001 x1 0), (2, .ptr 1002 x2 0), (3, .ptr 1003 x3 0), (5, .int false .i64 i)], [⟨1119, b, .row 34 4 (.mlist 4 true true Sym eSym dSym out)⟩, ⟨1001, x1, .box 29 [.int false .i64 c1, .int false .i64 c2, .int false .i64 c3, .int false .i64 c4, .mlist 2 g f Nod eNod dNod c5, .mlist 1 g f Int eI 0 c6, .mlist 4 true false Sym eSym dSym l]⟩, ⟨1002, x2, .box 29 [.int true .i64 0, .int true .i64 0, .int true .i64 0, .int true .i64 0, .val (.slice none 0 0), .val (.slice none 0 0), .val (.slice none 0 0)]⟩, ⟨1003, x3, .box 29 [.int false .i64 a1, .int false .i64 a2, .int false .i64 a3, .int false .i64 a4, .mlist 2 true false Nod eNod dNod ns, .own 6001 y 1 0 k, .own 1119 b 4 0 m]⟩, ⟨6001, y, .row 3 1 (.mlist 1 true true Int eI 0 ac)⟩], n⟩ ∧ m = out.length ∧ i = m ∧ m ≤ 3 ∧ m ≤ l.length ∧ k = ac.length ∧ 1 ≤ k ∧ k ≤ 5 ∧ k = (if c6.length = 0 then 1 else min 5 c6.length) ∧ (c6 = [] → ac = [(ns.length : Int) - 1]) ∧ (∀ a ∈ ac, 0 ≤ a ∧ a < ns.length) ∧ (∀ x ∈ out, OkSym x)) := ⟨_, rfl⟩
      obtain ⟨μ, hμ⟩ : ∃ μ : St → Nat, μ = (fun s => match s.tm with | _ :: _ :: _ :: (_, .int _ _ i) :: _ => (3 - i).toNat | _ => 0) := ⟨_, rfl⟩
      refine ⟨[1, 2, 3, 5], [1119, 1001, 1002, 1003, 6001], I, μ, ?_, ?_⟩
      · cbv
        simp only [real, Num.mk.injEq] at hO
        obtain ⟨rfl, rfl, rfl, rfl, rfl, rfl, rfl, rfl, rfl, rfl, rfl, rfl, rfl, rfl, rfl, rfl, rfl, rfl, rfl, rfl, rfl, rfl, rfl, rfl, rfl, rfl, rfl, rfl, rfl, rfl, rfl, rfl, rfl, rfl, rfl, rfl, rfl, rfl, rfl, rfl, rfl, rfl, rfl, rfl⟩ := hO
        subst hQ
        try subst hI
        try subst hμ
        clear hsame
        try dsimp only at *
        try simp only [nc] at *
        try simp only [Int.ofNat_eq_natCast, decide_eq_true_eq, decide_eq_false_iff_not, Bool.and_eq_true, beq_iff_eq, beq_eq_false_iff_ne, ne_eq, Bool.false_eq_true, reduceCtorEq, Nat.add_eq, Nat.sub_eq, Nat.blt_eq, Nat.ble_eq, Nat.zero_add, Nat.add_zero, Bool.not_eq_true', Bool.not_eq_false', fEnt, fRow, fNod, fSym] at *
        refine WI.sf (Sf.virt _ _ _ 1119 (.row 34 4 (.mlist 4 true true Sym eSym dSym []))) (WI.sf (Sf.wk _ (TmW.refl _) (ObW.cons (WkO.refl _) (ObW.cons (WkO.refl _) (ObW.cons (WkO.refl _) (ObW.cons (WkO.box (Wks.cons (Wk.refl _) (Wks.cons (Wk.refl _) (Wks.cons (Wk.refl _) (Wks.cons (Wk.refl _) (Wks.cons (Wk.refl _) (Wks.cons (Wk.refl _) (Wks.cons (Wk.nil_own 1119 _ 4) Wks.nil)))))))) (ObW.cons (WkO.eq (l := [eI (IntKind.i64.wrap ((ns.length : Int) - 1))]) rfl rfl) .nil)))))) (WI.now ⟨_, 0, _, _, _, _, _, _, _, [], [IntKind.i64.wrap ((ns.length : Int) - 1)], rfl, rfl, rfl, by decide, Nat.zero_le _, rfl, by decide, by decide, (by rw [if_pos (by omega)]), (fun _ => by rw [wI (by omega) (by omega)]), fun a ha => by simp only [List.mem_singleton] at ha; rw [ha, wI (by omega) (by omega)]; omega, fun x hx => by simp at hx⟩))
      · intro s₀ h₀
        rw [hI] at h₀
        obtain ⟨i, m, b, x1, x2, x3, y, k, n, out, ac, rfl, hm, hi, h0, hml, hk, hk1, hk2, hk3, hk4, hac, hok⟩ := h₀
        cbv
        repeat' (first | exact hsame _ | refine And.intro ?_ ?_ | (refine (c23 hP _ _).fr ?_; rintro _ _ _ ⟨z, rfl, hz, rfl⟩; cbv) | (split <;> (rename_i hc; (try rw [hc]); (try cbv))))
        any_goals
          simp only [real, Num.mk.injEq] at hO
          obtain ⟨rfl, rfl, rfl, rfl, rfl, rfl, rfl, rfl, rfl, rfl, rfl, rfl, rfl, rfl, rfl, rfl, rfl, rfl, rfl, rfl, rfl, rfl, rfl, rfl, rfl, rfl, rfl, rfl, rfl, rfl, rfl, rfl, rfl, rfl, rfl, rfl, rfl, rfl, rfl, rfl, rfl, rfl, rfl, rfl⟩ := hO
          subst hQ
          try subst hI
          try subst hμ
          clear hsame
          try dsimp only at *
          try simp only [nc] at *
          try simp only [Int.ofNat_eq_natCast, decide_eq_true_eq, decide_eq_false_iff_not, Bool.and_eq_true, beq_iff_eq, beq_eq_false_iff_ne, ne_eq, Bool.false_eq_true, reduceCtorEq, Nat.add_eq, Nat.sub_eq, Nat.blt_eq, Nat.ble_eq, Nat.zero_add, Nat.add_zero, Bool.not_eq_true', Bool.not_eq_false', fEnt, fRow, fNod, fSym] at *
          first | omega | decide | (simp only [List.length_cons, List.length_nil, List.length_map, List.length_append, eqb_iff]; omega)
        all_goals
          simp only [real, Num.mk.injEq] at hO
          obtain ⟨rfl, rfl, rfl, rfl, rfl, rfl, rfl, rfl, rfl, rfl, rfl, rfl, rfl, rfl, rfl, rfl, rfl, rfl, rfl, rfl, rfl, rfl, rfl, rfl, rfl, rfl, rfl, rfl, rfl, rfl, rfl, rfl, rfl, rfl, rfl, rfl, rfl, rfl, rfl, rfl, rfl, rfl, rfl, rfl⟩ := hO
          subst hQ
          try subst hI
          try subst hμ
          clear hsame
          try dsimp only at *
          try simp only [nc] at *
          try simp only [Int.ofNat_eq_natCast, decide_eq_true_eq, decide_eq_false_iff_not, Bool.and_eq_true, beq_iff_eq, beq_eq_false_iff_ne, ne_eq, Bool.false_eq_true, reduceCtorEq, Nat.add_eq, Nat.sub_eq, Nat.blt_eq, Nat.ble_eq, Nat.zero_add, Nat.add_zero, Bool.not_eq_true', Bool.not_eq_false', fEnt, fRow, fNod, fSym] at *
        any_goals
          refine WD.sf (Sf.wk _ (TmW.refl _) (ObW.cons (WkO.row (c' := .mlist 4 true true Sym eSym dSym (out ++ [⟨_, _, _, _⟩])) rfl rfl (app1w out ⟨_, _, _, _⟩ (unl_wk _))) (ObW.refl _))) (WD.now ⟨_, _, _, _, _, _, _, _, _, _, _, rfl, by simp; omega, by rw [wI (by omega) (by omega)]; omega, by omega, by omega, hk, hk1, hk2, hk3, hk4, hac, fun x hx => ?_⟩ ?_)
          · rcases List.mem_append.1 hx with hx | hx
            · exact hok x hx
            · simp only [List.mem_singleton] at hx
              subst hx
              refine ⟨umod1 _ (by decide) (by decide), umod1 _ (by decide) (by decide), ?_, ?_⟩
              · first | (show (0 : Int) ≤ 9223372036854775807; decide) | exact Int.not_lt.1 (of_decide_eq_false (by assumption))
              · first | exact fRight_half | (rw [hz] at *; assumption) | exact hz.symm.trans (by assumption)
          · show (3 - IntKind.i64.wrap (i + 1)).toNat < (3 - i).toNat
            rw [wI (by omega) (by omega)]
            omega
        · refine FQ.frz 1119 rfl ?_ ?_
          rotate_left
          simp only [tupOf, frz, frzs, isIt, eqb_self, cond_true, cond_false, cutSeq, delOb, show eqb 1119 6001 = false from rfl, show eqb 6001 1119 = false from rfl]
          rotate_right
          simp only [tupOf, frzC, frzCs, isIt, eqb_self, cond_true, cond_false, seqLe, real, List.append_nil, List.nil_append, List.mem_cons, List.not_mem_nil, or_false, forall_eq, List.cons_append, show eqb 1119 6001 = false from rfl, show eqb 6001 1119 = false from rfl]
          · simp; omega
          refine FQ.frz 6001 rfl ?_ ?_
          rotate_left
          simp only [tupOf, frz, frzs, isIt, eqb_self, cond_true, cond_false, cutSeq, delOb, show eqb 6001 1119 = false from rfl, show eqb 1119 6001 = false from rfl]
          rotate_right
          simp only [tupOf, frzC, frzCs, isIt, eqb_self, cond_true, cond_false, seqLe, real, List.append_nil, List.nil_append, List.mem_cons, List.not_mem_nil, or_false, forall_eq, List.cons_append, show eqb 6001 1119 = false from rfl, show eqb 1119 6001 = false from rfl]
          · simp; omega
          refine FQ.wk (Wk.agg (Wks.cons (Wk.refl _) (Wks.cons (Wk.refl _) (Wks.cons (Wk.refl _) (Wks.cons (Wk.refl _) (Wks.cons (Wk.refl _) (Wks.cons (Wk.recode (l' := ac) (enc' := eI) (d' := (0 : Int)) ?_) (Wks.cons (Wk.recode (l' := out) (enc' := eSym) (d' := dSym) ?_) Wks.nil)))))))) (FQ.forget (FQ.done ⟨⟨a1, a2, a3, a4, ns, ac, out⟩, rfl, ⟨⟨ha1, ha2, ha3, ha4, hns, ⟨hn1, hn2⟩, ⟨?_, ?_⟩, hac, ⟨?_, ?_⟩, hok⟩, hk ▸ hk3, hn3, hk4, fun e => (by replace e : l = [] := e; subst e; simp only [List.length_nil] at hml; omega)⟩, rfl⟩))
          · simp [real, hk]
          · simp [real, hm]
          · show 1 ≤ ac.length
            omega
          · show ac.length ≤ 5
            omega
          · show 1 ≤ out.length
            omega
          · show out.length ≤ 3
            omega
        · refine FQ.frz 1126 rfl ?_ ?_
          rotate_left
          simp only [tupOf, frz, frzs, isIt, eqb_self, cond_true, cond_false, cutSeq, delOb, show eqb 1126 6001 = false from rfl, show eqb 6001 1126 = false from rfl]
          rotate_right
          simp only [tupOf, frzC, frzCs, isIt, eqb_self, cond_true, cond_false, seqLe, real, List.append_nil, List.nil_append, List.mem_cons, List.not_mem_nil, or_false, forall_eq, List.cons_append, show eqb 1126 6001 = false from rfl, show eqb 6001 1126 = false from rfl]
          · simp
          refine FQ.frz 6001 rfl ?_ ?_
          rotate_left
          simp only [tupOf, frz, frzs, isIt, eqb_self, cond_true, cond_false, cutSeq, delOb, show eqb 6001 1126 = false from rfl, show eqb 1126 6001 = false from rfl]
          rotate_right
          simp only [tupOf, frzC, frzCs, isIt, eqb_self, cond_true, cond_false, seqLe, real, List.append_nil, List.nil_append, List.mem_cons, List.not_mem_nil, or_false, forall_eq, List.cons_append, show eqb 6001 1126 = false from rfl, show eqb 1126 6001 = false from rfl]
          · simp; omega
          refine FQ.wk (Wk.agg (Wks.cons (Wk.refl _) (Wks.cons (Wk.refl _) (Wks.cons (Wk.refl _) (Wks.cons (Wk.refl _) (Wks.cons (Wk.refl _) (Wks.cons (Wk.recode (l' := ac) (enc' := eI) (d' := (0 : Int)) ?_) (Wks.cons (Wk.mlist_els (l := [⟨10, 100, 1000, 4602678819172646912⟩]) (enc := eSym) (d := dSym) (Wks.cons (unl_wk _) Wks.nil)) Wks.nil)))))))) (FQ.forget (FQ.done ⟨⟨a1, a2, a3, a4, ns, ac, [⟨10, 100, 1000, 4602678819172646912⟩]⟩, rfl, ⟨⟨ha1, ha2, ha3, ha4, hns, ⟨hn1, hn2⟩, ⟨?_, ?_⟩, hac, ⟨Nat.le_refl 1, Nat.le_add_left 1 2⟩, fun x hx => ?_⟩, hk ▸ hk3, hn3, hk4, fun _ => rfl⟩, rfl⟩))
          · simp [real, hk]
          · show 1 ≤ ac.length
            omega
          · show ac.length ≤ 5
            omega
          · simp only [List.mem_singleton] at hx
            subst hx
            exact ⟨by decide, by decide, by decide, fRight_half⟩
        · refine FQ.frz 1119 rfl ?_ ?_
          rotate_left
          simp only [tupOf, frz, frzs, isIt, eqb_self, cond_true, cond_false, cutSeq, delOb, show eqb 1119 6001 = false from rfl, show eqb 6001 1119 = false from rfl]
          rotate_right
          simp only [tupOf, frzC, frzCs, isIt, eqb_self, cond_true, cond_false, seqLe, real, List.append_nil, List.nil_append, List.mem_cons, List.not_mem_nil, or_false, forall_eq, List.cons_append, show eqb 1119 6001 = false from rfl, show eqb 6001 1119 = false from rfl]
          · simp; omega
          refine FQ.frz 6001 rfl ?_ ?_
          rotate_left
          simp only [tupOf, frz, frzs, isIt, eqb_self, cond_true, cond_false, cutSeq, delOb, show eqb 6001 1119 = false from rfl, show eqb 1119 6001 = false from rfl]
          rotate_right
          simp only [tupOf, frzC, frzCs, isIt, eqb_self, cond_true, cond_false, seqLe, real, List.append_nil, List.nil_append, List.mem_cons, List.not_mem_nil, or_false, forall_eq, List.cons_append, show eqb 6001 1119 = false from rfl, show eqb 1119 6001 = false from rfl]
          · simp; omega
          refine FQ.wk (Wk.agg (Wks.cons (Wk.refl _) (Wks.cons (Wk.refl _) (Wks.cons (Wk.refl _) (Wks.cons (Wk.refl _) (Wks.cons (Wk.refl _) (Wks.cons (Wk.recode (l' := ac) (enc' := eI) (d' := (0 : Int)) ?_) (Wks.cons (Wk.recode (l' := out) (enc' := eSym) (d' := dSym) ?_) Wks.nil)))))))) (FQ.forget (FQ.done ⟨⟨a1, a2, a3, a4, ns, ac, out⟩, rfl, ⟨⟨ha1, ha2, ha3, ha4, hns, ⟨hn1, hn2⟩, ⟨?_, ?_⟩, hac, ⟨?_, ?_⟩, hok⟩, hk ▸ hk3, hn3, hk4, fun e => (by replace e : l = [] := e; subst e; simp only [List.length_nil] at hml; omega)⟩, rfl⟩))
          · simp [real, hk]
          · simp [real, hm]
          · show 1 ≤ ac.length
            omega
          · show ac.length ≤ 5
            omega
          · show 1 ≤ out.length
            omega
          · show out.length ≤ 3
            omega
    · try clear hI I
      try clear hμ μ
      obtain ⟨I, hI⟩ : ∃ I : St → Prop, I = (fun s => ∃ (i : Int) (m b x1 x2 x3 y k n : Nat) (out : List Sym) (ac : List Int), s = ⟨[(1, .ptr 1001 x1 0), (2, .ptr 1002 x2 0), (3, .ptr 1003 x3 0), (5, .int false .i64 i)], [⟨1119, b, .row 34 4 (.mlist 4 true true Sym eSym dSym out)⟩, ⟨1001, x1, .box 29 [.int false .i64 c1, .int false .i64 c2, .int false .i64 c3, .int false .i64 c4, .mlist 2 g f Nod eNod dNod c5, .mlist 1 g f Int eI 0 c6, .mlist 4 true false Sym eSym dSym l]⟩, ⟨1002, x2, .box 29 [.int true .i64 0, .int true .i64 0, .int true .i64 0, .int true .i64 0, .val (.slice none 0 0), .val (.slice none 0 0), .val (.slice none 0 0)]⟩, ⟨1003, x3, .box 29 [.int false .i64 a1, .int false .i64 a2, .int false .i64 a3, .int false .i64 a4, .mlist 2 true false Nod eNod dNod ns, .own 6001 y 1 0 k, .own 1119 b 4 0 m]⟩, ⟨6001, y, .row 3 1 (.mlist 1 true true Int eI 0 ac)⟩], n⟩ ∧ m = out.length ∧ i = m ∧ m ≤ 3 ∧ m ≤ l.length ∧ k = ac.length ∧ 1 ≤ k ∧ k ≤ 5 ∧ k = (if c6.length = 0 then 1 else min 5 c6.length) ∧ (c6 = [] → ac = [(ns.length : Int) - 1]) ∧ (∀ a ∈ ac, 0 ≤ a ∧ a < ns.length) ∧ (∀ x ∈ out, OkSym x)) := ⟨_, rfl⟩
      obtain ⟨μ, hμ⟩ : ∃ μ : St → Nat, μ = (fun s => match s.tm with | _ :: _ :: _ :: (_, .int _ _ i) :: _ => (3 - i).toNat | _ => 0) := ⟨_, rfl⟩
      refine ⟨[1, 2, 3, 5], [1119, 1001, 1002, 1003, 6001], I, μ, ?_, ?_⟩
      · cbv
        simp only [real, Num.mk.injEq] at hO
        obtain ⟨rfl, rfl, rfl, rfl, rfl, rfl, rfl, rfl, rfl, rfl, rfl, rfl, rfl, rfl, rfl, rfl, rfl, rfl, rfl, rfl, rfl, rfl, rfl, rfl, rfl, rfl, rfl, rfl, rfl, rfl, rfl, rfl, rfl, rfl, rfl, rfl, rfl, rfl, rfl, rfl, rfl, rfl, rfl, rfl⟩ := hO
        subst hQ
        try subst hI
        try subst hμ
        clear hsame
        try dsimp only at *
        try simp only [nc] at *
        try simp only [Int.ofNat_eq_natCast, decide_eq_true_eq, decide_eq_false_iff_not, Bool.and_eq_true, beq_iff_eq, beq_eq_false_iff_ne, ne_eq, Bool.false_eq_true, reduceCtorEq, Nat.add_eq, Nat.sub_eq, Nat.blt_eq, Nat.ble_eq, Nat.zero_add, Nat.add_zero, Bool.not_eq_true', Bool.not_eq_false', fEnt, fRow, fNod, fSym] at *
        refine WI.sf (Sf.virt _ _ _ 1119 (.row 34 4 (.mlist 4 true true Sym eSym dSym []))) (WI.sf (Sf.wk _ (TmW.refl _) (ObW.cons (WkO.refl _) (ObW.cons (WkO.refl _) (ObW.cons (WkO.refl _) (ObW.cons (WkO.box (Wks.cons (Wk.refl _) (Wks.cons (Wk.refl _) (Wks.cons (Wk.refl _) (Wks.cons (Wk.refl _) (Wks.cons (Wk.refl _) (Wks.cons (Wk.refl _) (Wks.cons (Wk.nil_own 1119 _ 4) Wks.nil)))))))) (ObW.cons (WkO.refl _) .nil)))))) (WI.now ⟨_, 0, _, _, _, _, _, _, _, [], out, rfl, rfl, rfl, by decide, Nat.zero_le _, hm, by omega, by omega, (by split <;> omega), (fun e => by subst e; simp only [List.length_nil] at *; omega), hal, fun x hx => by simp at hx⟩))
      · intro s₀ h₀
        rw [hI] at h₀
        obtain ⟨i, m, b, x1, x2, x3, y, k, n, out, ac, rfl, hm, hi, h0, hml, hk, hk1, hk2, hk3, hk4, hac, hok⟩ := h₀
        cbv
        repeat' (first | exact hsame _ | refine And.intro ?_ ?_ | (refine (c23 hP _ _).fr ?_; rintro _ _ _ ⟨z, rfl, hz, rfl⟩; cbv) | (split <;> (rename_i hc; (try rw [hc]); (try cbv))))
        any_goals
          simp only [real, Num.mk.injEq] at hO
          obtain ⟨rfl, rfl, rfl, rfl, rfl, rfl, rfl, rfl, rfl, rfl, rfl, rfl, rfl, rfl, rfl, rfl, rfl, rfl, rfl, rfl, rfl, rfl, rfl, rfl, rfl, rfl, rfl, rfl, rfl, rfl, rfl, rfl, rfl, rfl, rfl, rfl, rfl, rfl, rfl, rfl, rfl, rfl, rfl, rfl⟩ := hO
          subst hQ
          try subst hI
          try subst hμ
          clear hsame
          try dsimp only at *
          try simp only [nc] at *
          try simp only [Int.ofNat_eq_natCast, decide_eq_true_eq, decide_eq_false_iff_not, Bool.and_eq_true, beq_iff_eq, beq_eq_false_iff_ne, ne_eq, Bool.false_eq_true, reduceCtorEq, Nat.add_eq, Nat.sub_eq, Nat.blt_eq, Nat.ble_eq, Nat.zero_add, Nat.add_zero, Bool.not_eq_true', Bool.not_eq_false', fEnt, fRow, fNod, fSym] at *
          first | omega | decide | (simp only [List.length_cons, List.length_nil, List.length_map, List.length_append, eqb_iff]; omega)
        all_goals
          simp only [real, Num.mk.injEq] at hO
          obtain ⟨rfl, rfl, rfl, rfl, rfl, rfl, rfl, rfl, rfl, rfl, rfl, rfl, rfl, rfl, rfl, rfl, rfl, rfl, rfl, rfl, rfl, rfl, rfl, rfl, rfl, rfl, rfl, rfl, rfl, rfl, rfl, rfl, rfl, rfl, rfl, rfl, rfl, rfl, rfl, rfl, rfl, rfl, rfl, rfl⟩ := hO
          subst hQ
          try subst hI
          try subst hμ
          clear hsame
          try dsimp only at *
          try simp only [nc] at *
          try simp only [Int.ofNat_eq_natCast, decide_eq_true_eq, decide_eq_false_iff_not, Bool.and_eq_true, beq_iff_eq, beq_eq_false_iff_ne, ne_eq, Bool.false_eq_true, reduceCtorEq, Nat.add_eq, Nat.sub_eq, Nat.blt_eq, Nat.ble_eq, Nat.zero_add, Nat.add_zero, Bool.not_eq_true', Bool.not_eq_false', fEnt, fRow, fNod, fSym] at *
        any_goals
          refine WD.sf (Sf.wk _ (TmW.refl _) (ObW.cons (WkO.row (c' := .mlist 4 true true Sym eSym dSym (out ++ [⟨_, _, _, _⟩])) rfl rfl (app1w out ⟨_, _, _, _⟩ (unl_wk _))) (ObW.refl _))) (WD.now ⟨_, _, _, _, _, _, _, _, _, _, _, rfl, by simp; omega, by rw [wI (by omega) (by omega)]; omega, by omega, by omega, hk, hk1, hk2, hk3, hk4, hac, fun x hx => ?_⟩ ?_)
          · rcases List.mem_append.1 hx with hx | hx
            · exact hok x hx
            · simp only [List.mem_singleton] at hx
              subst hx
              refine ⟨umod1 _ (by decide) (by decide), umod1 _ (by decide) (by decide), ?_, ?_⟩
              · first | (show (0 : Int) ≤ 9223372036854775807; decide) | exact Int.not_lt.1 (of_decide_eq_false (by assumption))
              · first | exact fRight_half | (rw [hz] at *; assumption) | exact hz.symm.trans (by assumption)
          · show (3 - IntKind.i64.wrap (i + 1)).toNat < (3 - i).toNat
            rw [wI (by omega) (by omega)]
            omega
        · refine FQ.frz 1119 rfl ?_ ?_
          rotate_left
          simp only [tupOf, frz, frzs, isIt, eqb_self, cond_true, cond_false, cutSeq, delOb, show eqb 1119 6001 = false from rfl, show eqb 6001 1119 = false from rfl]
          rotate_right
          simp only [tupOf, frzC, frzCs, isIt, eqb_self, cond_true, cond_false, seqLe, real, List.append_nil, List.nil_append, List.mem_cons, List.not_mem_nil, or_false, forall_eq, List.cons_append, show eqb 1119 6001 = false from rfl, show eqb 6001 1119 = false from rfl]
          · simp; omega
          refine FQ.frz 6001 rfl ?_ ?_
          rotate_left
          simp only [tupOf, frz, frzs, isIt, eqb_self, cond_true, cond_false, cutSeq, delOb, show eqb 6001 1119 = false from rfl, show eqb 1119 6001 = false from rfl]
          rotate_right
          simp only [tupOf, frzC, frzCs, isIt, eqb_self, cond_true, cond_false, seqLe, real, List.append_nil, List.nil_append, List.mem_cons, List.not_mem_nil, or_false, forall_eq, List.cons_append, show eqb 6001 1119 = false from rfl, show eqb 1119 6001 = false from rfl]
          · simp; omega
          refine FQ.wk (Wk.agg (Wks.cons (Wk.refl _) (Wks.cons (Wk.refl _) (Wks.cons (Wk.refl _) (Wks.cons (Wk.refl _) (Wks.cons (Wk.refl _) (Wks.cons (Wk.recode (l' := ac) (enc' := eI) (d' := (0 : Int)) ?_) (Wks.cons (Wk.recode (l' := out) (enc' := eSym) (d' := dSym) ?_) Wks.nil)))))))) (FQ.forget (FQ.done ⟨⟨a1, a2, a3, a4, ns, ac, out⟩, rfl, ⟨⟨ha1, ha2, ha3, ha4, hns, ⟨hn1, hn2⟩, ⟨?_, ?_⟩, hac, ⟨?_, ?_⟩, hok⟩, hk ▸ hk3, hn3, hk4, fun e => (by replace e : l = [] := e; subst e; simp only [List.length_nil] at hml; omega)⟩, rfl⟩))
          · simp [real, hk]
          · simp [real, hm]
          · show 1 ≤ ac.length
            omega
          · show ac.length ≤ 5
            omega
          · show 1 ≤ out.length
            omega
          · show out.length ≤ 3
            omega
        · refine FQ.frz 1126 rfl ?_ ?_
          rotate_left
          simp only [tupOf, frz, frzs, isIt, eqb_self, cond_true, cond_false, cutSeq, delOb, show eqb 1126 6001 = false from rfl, show eqb 6001 1126 = false from rfl]
          rotate_right
          simp only [tupOf, frzC, frzCs, isIt, eqb_self, cond_true, cond_false, seqLe, real, List.append_nil, List.nil_append, List.mem_cons, List.not_mem_nil, or_false, forall_eq, List.cons_append, show eqb 1126 6001 = false from rfl, show eqb 6001 1126 = false from rfl]
          · simp
          refine FQ.frz 6001 rfl ?_ ?_
          rotate_left
          simp only [tupOf, frz, frzs, isIt, eqb_self, cond_true, cond_false, cutSeq, delOb, show eqb 6001 1126 = false from rfl, show eqb 1126 6001 = false from rfl]
          rotate_right
          simp only [tupOf, frzC, frzCs, isIt, eqb_self, cond_true, cond_false, seqLe, real, List.append_nil, List.nil_append, List.mem_cons, List.not_mem_nil, or_false, forall_eq, List.cons_append, show eqb 6001 1126 = false from rfl, show eqb 1126 6001 = false from rfl]
          · simp; omega
          refine FQ.wk (Wk.agg (Wks.cons (Wk.refl _) (Wks.cons (Wk.refl _) (Wks.cons (Wk.refl _) (Wks.cons (Wk.refl _) (Wks.cons (Wk.refl _) (Wks.cons (Wk.recode (l' := ac) (enc' := eI) (d' := (0 : Int)) ?_) (Wks.cons (Wk.mlist_els (l := [⟨10, 100, 1000, 4602678819172646912⟩]) (enc := eSym) (d := dSym) (Wks.cons (unl_wk _) Wks.nil)) Wks.nil)))))))) (FQ.forget (FQ.done ⟨⟨a1, a2, a3, a4, ns, ac, [⟨10, 100, 1000, 4602678819172646912⟩]⟩, rfl, ⟨⟨ha1, ha2, ha3, ha4, hns, ⟨hn1, hn2⟩, ⟨?_, ?_⟩, hac, ⟨Nat.le_refl 1, Nat.le_add_left 1 2⟩, fun x hx => ?_⟩, hk ▸ hk3, hn3, hk4, fun _ => rfl⟩, rfl⟩))
          · simp [real, hk]
          · show 1 ≤ ac.length
            omega
          · show ac.length ≤ 5
            omega
          · simp only [List.mem_singleton] at hx
            subst hx
            exact ⟨by decide, by decide, by decide, fRight_half⟩
        · refine FQ.frz 1119 rfl ?_ ?_
          rotate_left
          simp only [tupOf, frz, frzs, isIt, eqb_self, cond_true, cond_false, cutSeq, delOb, show eqb 1119 6001 = false from rfl, show eqb 6001 1119 = false from rfl]
          rotate_right
          simp only [tupOf, frzC, frzCs, isIt, eqb_self, cond_true, cond_false, seqLe, real, List.append_nil, List.nil_append, List.mem_cons, List.not_mem_nil, or_false, forall_eq, List.cons_append, show eqb 1119 6001 = false from rfl, show eqb 6001 1119 = false from rfl]
          · simp; omega
          refine FQ.frz 6001 rfl ?_ ?_
          rotate_left
          simp only [tupOf, frz, frzs, isIt, eqb_self, cond_true, cond_false, cutSeq, delOb, show eqb 6001 1119 = false from rfl, show eqb 1119 6001 = false from rfl]
          rotate_right
          simp only [tupOf, frzC, frzCs, isIt, eqb_self, cond_true, cond_false, seqLe, real, List.append_nil, List.nil_append, List.mem_cons, List.not_mem_nil, or_false, forall_eq, List.cons_append, show eqb 6001 1119 = false from rfl, show eqb 1119 6001 = false from rfl]
          · simp; omega
          refine FQ.wk (Wk.agg (Wks.cons (Wk.refl _) (Wks.cons (Wk.refl _) (Wks.cons (Wk.refl _) (Wks.cons (Wk.refl _) (Wks.cons (Wk.refl _) (Wks.cons (Wk.recode (l' := ac) (enc' := eI) (d' := (0 : Int)) ?_) (Wks.cons (Wk.recode (l' := out) (enc' := eSym) (d' := dSym) ?_) Wks.nil)))))))) (FQ.forget (FQ.done ⟨⟨a1, a2, a3, a4, ns, ac, out⟩, rfl, ⟨⟨ha1, ha2, ha3, ha4, hns, ⟨hn1, hn2⟩, ⟨?_, ?_⟩, hac, ⟨?_, ?_⟩, hok⟩, hk ▸ hk3, hn3, hk4, fun e => (by replace e : l = [] := e; subst e; simp only [List.length_nil] at hml; omega)⟩, rfl⟩))
          · simp [real, hk]
          · simp [real, hm]
          · show 1 ≤ ac.length
            omega
          · show ac.length ≤ 5
            omega
          · show 1 ≤ out.length
            omega
          · show out.length ≤ 3
            omega
end Go.Proofs.Ytckkcgkgfkgfdaa.AM
