/- Contracts: told; the law BookRates. -/
import Derived.Test.YtckkcgkgfkgfdaaCD2
set_option linter.unusedVariables false
set_option linter.unusedSimpArgs false
namespace Go.Proofs.Ytckkcgkgfkgfdaa.AM
open Ytckkcgkgfkgfdaa
set_option maxRecDepth 20000
set_option maxHeartbeats 4000000
theorem ACalls.pre {P : Program} {f : FuncId} {args args' : List AV} {ob ob' : List Ent} {nx nx' : Nat} {Q : AV → List Ent → Nat → Prop} (h : Fin (.tup args) ob nx (.tup args') ob' nx') (k : ACalls P f args' ob' nx' Q) : ACalls P f args ob nx Q := by
  refine ⟨fun φ H F w vs hR hvs => ?_⟩
  obtain ⟨φ', H', hE, hR', us, e, hv⟩ := h φ H F w (.tuple vs.toArray) hR ⟨vs, rfl, hvs⟩
  have e : vs = us := by
    have := congrArg Array.toList (Value.tuple.inj e)
    simpa using this
  subst e
  have go : ∀ e w', CPost φ' H' F nx' w Q e w' → CPost φ H F nx w Q e w' := fun e w' k => by
    cases e with
    | panicked => exact k
    | outgrown => exact k
    | returned v => obtain ⟨r, o2, n2, p, q, h1, h2, h3, h4⟩ := k; exact ⟨r, o2, n2, p, q, h1, hE.trans h2, h3, h4⟩
  rcases k.go φ' H' F w vs hR' hv with ⟨h1, h2⟩ | ⟨v, h1, h2⟩
  · exact .inl ⟨h1, h2.mono go⟩
  · exact .inr ⟨v, h1, go _ _ h2⟩
theorem ACalls.pfr {P : Program} {f : FuncId} {args args' : List AV} {ob ob' : List Ent} {nx nx' : Nat} {Q Q' : AV → List Ent → Nat → Prop} (h : Fin (.tup args) ob nx (.tup args') ob' nx') (k : ACalls P f args' [] nx' Q) (hq : ∀ r o n, Q r o n → Q' r (o ++ ob') n) : ACalls P f args ob nx Q' := ACalls.pre h (k.fr hq)
theorem ACalls.afr {P : Program} {f : FuncId} {args args' : List AV} {ob : List Ent} {nx : Nat} {Q Q' : AV → List Ent → Nat → Prop} (hw : Wks args args') (k : ACalls P f args' [] nx Q) (hq : ∀ r o n, Q r o n → Q' r (o ++ ob) n) : ACalls P f args ob nx Q' := (k.fr hq).args hw
theorem fz12 (bs nx : Nat) (ob : List Ent) : Fin (.tup [.agg [.int true .i64 2, .int true .i64 0, .int true .i64 0, .int true .i64 0, .val (.slice none 0 0), .own 1012 bs 1 0 2, .val (.slice none 0 0)]]) (⟨1012, bs, .row 3 1 (.list 1 true true [.int true .i64 0, .int true .i64 0])⟩ :: ob) nx (.tup [eCfg true false ⟨2, 0, 0, 0, [], [0, 0], []⟩]) ob nx := by
  refine Fin.trans (Fin.freeze (ix := 1012) (bs := bs) (st := 1) (e := 3) (c := .list 1 true true [.int true .i64 0, .int true .i64 0]) (by simp [find]) ?_ _) ?_
  · simp [frzC, frzCs, isIt, seqLe, real]
  · have e : frz real 1012 bs 1 (.list 1 true true [.int true .i64 0, .int true .i64 0]) (.tup [.agg [.int true .i64 2, .int true .i64 0, .int true .i64 0, .int true .i64 0, .val (.slice none 0 0), .own 1012 bs 1 0 2, .val (.slice none 0 0)]]) = .tup [.agg [.int true .i64 2, .int true .i64 0, .int true .i64 0, .int true .i64 0, .val (.slice none 0 0), .list 1 true false [.int true .i64 0, .int true .i64 0], .val (.slice none 0 0)]] := by
      simp [frz, frzs, isIt, cutSeq, real]
    have e2 : delOb (⟨1012, bs, .row 3 1 (.list 1 true true [.int true .i64 0, .int true .i64 0])⟩ :: ob) 1012 = ob := by simp [delOb]
    rw [e, e2]
    exact Fin.wk _ _ (Wk.tup (Wks.cons (Wk.agg (Wks.cons (unl_wk _) (Wks.cons (unl_wk _) (Wks.cons (unl_wk _) (Wks.cons (unl_wk _) (Wks.cons (Wk.nil_mlist 2 true false Nod eNod dNod) (Wks.cons (Wk.mlist_els (l := [0, 0]) (enc := eI) (d := (0 : Int)) (Wks.cons (unl_wk _) (Wks.cons (unl_wk _) Wks.nil))) (Wks.cons (Wk.nil_mlist 4 true false Sym eSym dSym) Wks.nil)))))))) Wks.nil))
theorem okLen {c : Cfg} (h : OkCfg c) : c.symbols.length ≤ 1000000000000 ∧ c.nodes.length ≤ 1000000000000 ∧ c.accounts.length ≤ 1000000000000 ∧ 0 ≤ c.window ∧ c.window ≤ 1000000 := by
  have := h.symbols.2
  have := h.nodes.2
  have := h.accounts.2
  have := h.window
  omega
def tOrd : Ordr := ⟨1, 0, false, 10, 3, 1, 0⟩
theorem told_x {c : Cfg} {b x : Bk} {w : Int} (hac : c.accounts.length = 2) (hb : b = ⟨1, 0, List.replicate c.accounts.length dRow, []⟩) (hx : x = bAdd c b tOrd 0) (hw : w = IntKind.i64.wrap (b.shard + IntKind.i64.wrap (c.shards * b.came))) :
    w = 1 ∧ b.rows.length = 2 ∧ b.opn = [] ∧ (∀ r ∈ b.rows, r.nums.length ≤ 1000000000000) ∧ x.rows.length = 2 ∧ x.opn = [⟨1, tOrd, 3, 1, 0⟩] ∧ ∀ r ∈ x.rows, r.nums.length ≤ 1000000000000 := by
  subst hb
  have h1 : IntKind.i64.wrap ((1 : Int) + IntKind.i64.wrap (c.shards * 0)) = 1 := by
    rw [Int.mul_zero]
    decide
  have hw1 : w = 1 := hw.trans h1
  subst hx
  refine ⟨hw1, by simp [hac], rfl, fun r hr => ?_, ?_, ?_, fun r hr => ?_⟩
  · rw [List.eq_of_mem_replicate hr]; decide
  · simp only [bAdd]
    split <;> simp [hac]
  · show [] ++ [(⟨IntKind.i64.wrap ((1 : Int) + IntKind.i64.wrap (c.shards * 0)), tOrd, 3, 1, 0⟩ : BEnt)] = _
    rw [h1]
    rfl
  · simp only [bAdd] at hr
    split at hr
    · rcases List.mem_or_eq_of_mem_set hr with hr | hr
      · rw [List.eq_of_mem_replicate hr]; decide
      · subst hr
        rw [hac]
        show (([] ++ [(1 : Int)]).drop _).length ≤ _
        rw [List.length_drop]
        exact Nat.le_trans (Nat.sub_le _ _) (by decide)
    · rw [List.eq_of_mem_replicate hr]; decide
theorem told_b {ac : List Int} {b : Bk} (hac : ac.length = 2) (hb : b = ⟨1, 0, List.replicate ac.length dRow, []⟩) : b.rows.length = 2 ∧ b.opn.length = 0 ∧ ∀ r ∈ b.rows, r.nums.length ≤ 1000000000000 := by
  subst hb
  exact ⟨by simp [hac], rfl, fun r hr => by rw [List.eq_of_mem_replicate hr]; decide⟩
theorem told_y {x y : Bk} {w k : Int} (hw : w = 1) (hx : x.opn = [⟨1, tOrd, 3, 1, 0⟩]) (hy : (y, k) = bFill x w 2) : k = 0 ∧ y.rows = x.rows ∧ y.opn = [⟨1, tOrd, 1, 1, 0⟩] := by
  obtain ⟨s, c, r, o⟩ := x
  replace hx : o = _ := hx
  subst hw hx
  have e : bFill ⟨s, c, r, [⟨1, tOrd, 3, 1, 0⟩]⟩ 1 2 = (⟨s, c, r, [⟨1, tOrd, 1, 1, 0⟩]⟩, 0) := rfl
  rw [e] at hy
  obtain ⟨rfl, rfl⟩ := Prod.mk.inj hy
  exact ⟨rfl, rfl, rfl⟩
theorem told_z {y z : Bk} {w k : Int} (hw : w = 1) (hx : y.opn = [⟨1, tOrd, 1, 1, 0⟩]) (hy : (z, k) = bFill y w 1) : k = 0 ∧ z.opn.length = 0 := by
  obtain ⟨s, c, r, o⟩ := y
  replace hx : o = _ := hx
  subst hw hx
  have e : bFill ⟨s, c, r, [⟨1, tOrd, 1, 1, 0⟩]⟩ 1 1 = (⟨s, c, r, []⟩, 0) := rfl
  rw [e] at hy
  obtain ⟨rfl, rfl⟩ := Prod.mk.inj hy
  exact ⟨rfl, rfl⟩
theorem told_u {y u : Bk} {w k : Int} (hw : w = 1) (hx : y.opn = [⟨1, tOrd, 1, 1, 0⟩]) (hy : (u, k) = bAck y w) : k = 16 := by
  obtain ⟨s, c, r, o⟩ := y
  replace hx : o = _ := hx
  subst hw hx
  have e : bAck ⟨s, c, r, [⟨1, tOrd, 1, 1, 0⟩]⟩ 1 = (⟨s, c, r, [⟨1, tOrd, 1, 1, 0⟩]⟩, 16) := rfl
  rw [e] at hy
  exact (Prod.mk.inj hy).2
theorem told_w {y : Bk} {k : Int} (hx : y.opn = [⟨1, tOrd, 1, 1, 0⟩]) (hy : k = bWorth y.opn 1) : k = 10 := by
  rw [hx] at hy
  exact hy.trans rfl
theorem c12 {P : Program} (hP : Try.prog = P) (nx : Nat) : ACalls P 12 [] [] nx (fun v o n => v = .bool true ∧ o = []) := by
  subst hP
  refine acalls_go (nm := []) (pl := []) (c := code Try.f12) tab_ok mixed Try.func12 (by kernel_rfl) (by kernel_rfl) (by kernel_rfl) ?_
  intro O P Q hO hP hQ
  have hsame : ∀ a, O.neq a a = true := fun a => by rw [← hO]; simp [real]
  obtain ⟨nadd, nsub, nmul, nquo, nrem, nbits, nshl, nshr, nwrap, nmax, nmin, nlt, nle, neq, nnot, nbeq, nband, ni2n, nn2i, ninb, nnadd, nnsub, nnle, nnlt, nneq, nlen, nget, nupd, napp, ntak, ndrp, nspl, nrep, nnth, nmlen, ncut, nemap, nslen, nsidx, nscut, nscat, nseq, nfcmp, ni2f⟩ := O
  replace hsame : ∀ a, nneq a a = true := hsame
  cbv
  repeat' (first | exact hsame _ | refine And.intro ?_ ?_ | (refine ACalls.pfr (fz12 _ _ _) (c6 hP true false ⟨2, 0, 0, 0, [], [0, 0], []⟩ (by decide) (by decide) (by decide) _) ?_; rintro _ _ _ ⟨⟨a1, a2, a3, a4, ns, ac, sy⟩, rfl, hfx, rfl⟩; cbv) | (refine (c8 hP true false ⟨a1, a2, a3, a4, ns, ac, sy⟩ ?_ ?_ ?_ _).fr ?_; all_goals try (rintro _ _ _ ⟨rfl, rfl⟩; cbv)) | (refine ACalls.afr (args' := [eCfg true false ⟨a1, a2, a3, a4, ns, ac, sy⟩, .int false .i64 1]) (unls_wk _) (c9 hP true false ⟨a1, a2, a3, a4, ns, ac, sy⟩ ?_ 1 _) ?_; all_goals try (rintro _ _ _ ⟨⟨bs, bc, br, bo⟩, rfl, hb, rfl⟩; cbv)) | (refine ACalls.afr (args' := [eOrd ⟨1, 0, false, 10, 3, 1, 0⟩]) (unls_wk _) (c10 hP ⟨1, 0, false, 10, 3, 1, 0⟩ _) ?_; rintro _ _ _ ⟨rfl, rfl⟩; cbv) | (refine ACalls.afr (args' := [eCfg true false ⟨a1, a2, a3, a4, ns, ac, sy⟩, eBk ⟨bs, bc, br, bo⟩, eOrd ⟨1, 0, false, 10, 3, 1, 0⟩, .int false .i64 0]) (unls_wk _) (c11 hP true false ⟨a1, a2, a3, a4, ns, ac, sy⟩ ?_ ?_ ⟨bs, bc, br, bo⟩ ?_ ?_ ?_ ⟨1, 0, false, 10, 3, 1, 0⟩ 0 _) ?_; all_goals try (rintro _ _ _ ⟨⟨xs, xc, xr, xo⟩, w, rfl, hx, hw, rfl⟩; cbv)) | (refine ACalls.afr (args' := [eBk ⟨xs, xc, xr, xo⟩, .int false .i64 w, .int false .i64 2]) (unls_wk _) (c28 hP ⟨xs, xc, xr, xo⟩ ?_ ?_ ?_ ?_ w 2 _) ?_; all_goals try (rintro _ _ _ ⟨⟨ys, yc, yr, yo⟩, ky, rfl, hy, rfl⟩; cbv)) | (refine ACalls.afr (args' := [eBk ⟨ys, yc, yr, yo⟩, .int false .i64 w, .int false .i64 1]) (unls_wk _) (c28 hP ⟨ys, yc, yr, yo⟩ ?_ ?_ ?_ ?_ w 1 _) ?_; all_goals try (rintro _ _ _ ⟨⟨zs, zc, zr, zo⟩, kz, rfl, hz, rfl⟩; cbv)) | (refine (c29 hP ⟨ys, yc, yr, yo⟩ ?_ ?_ ?_ ?_ w _).fr ?_; all_goals try (rintro _ _ _ ⟨⟨us, uc, ur, uo⟩, ku, rfl, hu, rfl⟩; cbv)) | (refine ACalls.afr (args' := [eBk ⟨ys, yc, yr, yo⟩, .int false .i64 1]) (unls_wk _) (c30 hP ⟨ys, yc, yr, yo⟩ ?_ 1 _) ?_; all_goals try (rintro _ _ _ ⟨wo, rfl, hwo, rfl⟩; cbv)) | (split <;> (rename_i hc; (try rw [hc]); (try cbv))))
  all_goals
    simp only [real, Num.mk.injEq] at hO
    obtain ⟨rfl, rfl, rfl, rfl, rfl, rfl, rfl, rfl, rfl, rfl, rfl, rfl, rfl, rfl, rfl, rfl, rfl, rfl, rfl, rfl, rfl, rfl, rfl, rfl, rfl, rfl, rfl, rfl, rfl, rfl, rfl, rfl, rfl, rfl, rfl, rfl, rfl, rfl, rfl, rfl, rfl, rfl, rfl, rfl⟩ := hO
    subst hQ
    try subst hI
    try subst hμ
    clear hsame
    try dsimp only at *
    try simp only [nc] at *
    try simp only [Int.ofNat_eq_natCast, decide_eq_true_eq, decide_eq_false_iff_not, Bool.and_eq_true, beq_iff_eq, beq_eq_false_iff_ne, ne_eq, Bool.false_eq_true, reduceCtorEq, Nat.add_eq, Nat.sub_eq, Nat.blt_eq, Nat.ble_eq, Nat.zero_add, Nat.add_zero, Bool.not_eq_true', Bool.not_eq_false', fEnt, fRow, fNod, fSym] at *
  all_goals have hac : ac.length = 2 := hfx.many.trans (by decide)
  all_goals have hok := okLen hfx.ok
  all_goals try (have tb := told_b (b := ⟨bs, bc, br, bo⟩) hac hb)
  all_goals try (have tx := told_x (b := ⟨bs, bc, br, bo⟩) (x := ⟨xs, xc, xr, xo⟩) (c := ⟨a1, a2, a3, a4, ns, ac, sy⟩) hac hb hx hw)
  all_goals try (have tx1 : xo.length = 1 := congrArg List.length tx.2.2.2.2.2.1)
  all_goals try (have hw1 : w = 1 := tx.1)
  all_goals try (have ty := told_y (x := ⟨xs, xc, xr, xo⟩) (y := ⟨ys, yc, yr, yo⟩) hw1 tx.2.2.2.2.2.1 hy)
  all_goals try (have ty0 := ty.1)
  all_goals try (have tyr : yr = xr := ty.2.1)
  all_goals try (have tyo : yo = [⟨1, tOrd, 1, 1, 0⟩] := ty.2.2)
  all_goals try (have tz := told_z (y := ⟨ys, yc, yr, yo⟩) (z := ⟨zs, zc, zr, zo⟩) hw1 tyo hz)
  all_goals try (have tz2 : zo.length = 0 := tz.2)
  all_goals try (have tu := told_u (y := ⟨ys, yc, yr, yo⟩) (u := ⟨us, uc, ur, uo⟩) hw1 tyo hu)
  all_goals try (have two := told_w (y := ⟨ys, yc, yr, yo⟩) tyo hwo)
  all_goals try exact hok.1
  all_goals try exact hok.2.1
  all_goals try exact hok.2.2.1
  all_goals try exact hok.2.2.2.1
  all_goals try exact hok.2.2.2.2
  all_goals try (exact FQ.forget (FQ.done ⟨by rw [tu]; rfl, rfl⟩))
  all_goals try (have tb1 : br.length = 2 := tb.1)
  all_goals try (have tb2 : bo.length = 0 := tb.2.1)
  all_goals try (have tx2 : xr.length = 2 := tx.2.2.2.2.1)
  all_goals try (first | omega | (exfalso; omega))
  all_goals try exact tb.2.2
  all_goals try exact tx.2.2.2.2.2.2
  all_goals try (rw [tyr]; first | omega | exact tx.2.2.2.2.2.2)
  all_goals try (rw [tyo]; first | decide | exact List.pairwise_singleton _ _)
  all_goals try (rw [show xo = _ from tx.2.2.2.2.2.1]; exact List.pairwise_singleton _ _)
end Go.Proofs.Ytckkcgkgfkgfdaa.AM
