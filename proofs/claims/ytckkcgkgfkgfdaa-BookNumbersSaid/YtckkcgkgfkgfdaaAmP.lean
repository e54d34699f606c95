/- The law of a region that draws its order, over an abstract memory. A plain law; no condition. -/
import Derived.Test.YtckkcgkgfkgfdaaAmO
set_option linter.unusedSimpArgs false
namespace Go.Proofs.Ytckkcgkgfkgfdaa.AM
open Go.Proofs.Ytckkcgkgfkgfdaa.Par (reach reach_ready depB depB_of backB wpAny_inv permB set_upd getD_tf)
universe u
section
variable {φ : Phi} {H : Nat → Prop} {F : Fr} {w : World} {ob : List Ent} {nx : Nat} {P : Program} {T : Tab} {N : Nat} {nm : List (Nat × Nat)}
theorem pairwise_ne {ob : List Ent} (h : ob.Pairwise fun e e' => e.ix ≠ e'.ix ∨ e.bs ≠ e'.bs) {x y : Ent} (hx : x ∈ ob) (hy : y ∈ ob) (h1 : x.ix = y.ix) (h2 : x.bs = y.bs) : x = y := by
  induction ob with
  | nil => cases hx
  | cons z r ih =>
    have hp := List.pairwise_cons.1 h
    rcases List.mem_cons.1 hx with rfl | hx'
    · rcases List.mem_cons.1 hy with rfl | hy'
      · rfl
      · rcases hp.1 y hy' with e | e
        · exact (e h1).elim
        · exact (e h2).elim
    · rcases List.mem_cons.1 hy with rfl | hy'
      · rcases hp.1 x hx' with e | e
        · exact (e h1.symm).elim
        · exact (e h2.symm).elim
      · exact ih hp.2 hx' hy'
/-- An object that was awaited is there. -/
theorem Rel.born (hR : Rel φ H F ob nx w) {ix n : Nat} {o : Ob} (hm : (⟨ix, n, o⟩ : Ent) ∈ ob) (hno : φ ix n = none) (hn : n < nx) {c : Array Value} {e : TypeId} (ho : ∀ φ' H', Up φ H w φ' H' (w.alloc (.cells c e)) → ObR φ' H' (w.alloc (.cells c e)) o w.heap.size 0) :
    Rel (upd φ ix n (w.heap.size, 0)) H F ob nx (w.alloc (.cells c e)) ∧ Up φ H w (upd φ ix n (w.heap.size, 0)) H (w.alloc (.cells c e)) := by
  have hx := hR.ext_alloc ix (.cells c e)
  have hsz : (w.alloc (.cells c e)).heap.size = w.heap.size + 1 := by simp
  have hup : Up φ H w (upd φ ix n (w.heap.size, 0)) H (w.alloc (.cells c e)) := ⟨fun i b x h => by
    unfold upd
    split
    · rename_i hc
      rw [hc.1, hc.2, hno] at h
      cases h
    · exact h, hx.up.held, hx.up.blk, hx.up.shp, hx.up.frz⟩
  have hφ : ∀ i b x y, upd φ ix n (w.heap.size, 0) i b = some (x, y) → (i = ix ∧ b = n ∧ x = w.heap.size ∧ y = 0) ∨ (φ i b = some (x, y) ∧ x < w.heap.size) := fun i b x y h => by
    unfold upd at h
    split at h
    · rename_i hc; cases h; exact .inl ⟨hc.1, hc.2, rfl, rfl⟩
    · exact .inr ⟨h, (hR.lt _ _ _ _ h).1⟩
  have same : ∀ x ∈ ob, x.ix = ix → x.bs = n → x = ⟨ix, n, o⟩ := fun x hx h1 h2 => pairwise_ne hR.nd hx hm h1 h2
  refine ⟨⟨fun i b x y h => ?_, fun b hb => by rw [hsz]; have := hR.hlt b hb; omega, fun b hb => by rw [hsz]; have := hR.flt b hb; omega, hR.hf, fun x hxm b y h => ?_, hR.nb, hR.nd, ?_, hR.fnm⟩, hup⟩
  · rw [hsz]
    rcases hφ _ _ _ _ h with ⟨_, h2, h3, _⟩ | ⟨h2, _⟩
    · omega
    · have := hR.lt _ _ _ _ h2; omega
  · rcases hφ _ _ _ _ h with ⟨h1, h2, rfl, rfl⟩ | ⟨h2, _⟩
    · obtain rfl := same x hxm h1 h2
      exact ⟨fun hh => by have := hR.hlt _ hh; omega, fun hh => by have := hR.flt _ hh; omega, ho _ _ hup⟩
    · obtain ⟨h3, h4, h5⟩ := hR.obs x hxm b y h2
      exact ⟨h3, h4, h5.up hup (Go.RowKit.Below.heap_alloc w _ b (hR.lt _ _ _ _ h2).1)⟩
  · refine (hR.inj.and hR.nd).imp_of_mem fun {x z} hx hz hxz b y b' y' h h' => ?_
    rcases hφ _ _ _ _ h with ⟨h1, h2, rfl, rfl⟩ | ⟨h1, h2⟩
    · rcases hφ _ _ _ _ h' with ⟨h3, h4, rfl, rfl⟩ | ⟨h3, h4⟩
      · rcases hxz.2 with e | e
        · exact (e (h1.trans h3.symm)).elim
        · exact (e (h2.trans h4.symm)).elim
      · omega
    · rcases hφ _ _ _ _ h' with ⟨h3, h4, rfl, rfl⟩ | ⟨h3, h4⟩
      · omega
      · exact hxz.1 b y b' y' h1 h3
def apB (ops : Array Oper) (j i : Nat) : Bool := match ops[j]?, ops[i]? with
  | some oj, some oi => oj.apart ops oi
  | _, _ => false
/-- j comes ahead of i in the plan: what must hold between them. -/
def pairOk (ops : Array Oper) (p : Plan) (j i : Nat) : Bool :=
  (!eqb j i) && ((bif hasN p.chs j then reach .any ops j 40 i else (reach .any ops j 40 i || apB ops j i)) && (bif hasN p.chs i then (hasN p.chs j || (hasN (rcOf p.rc i) j || reach .any ops j 40 i)) else true))
def okD (ops : Array Oper) (p : Plan) : List Nat → Bool
  | [] => true
  | j :: is => is.all (pairOk ops p j) && okD ops p is
def planOk (ops : Array Oper) (p : Plan) : Bool := Region.noSelect ops && (backB .any ops && (permB ops.size p.order && okD ops p p.order))
theorem okD_pair {ops : Array Oper} {p : Plan} : ∀ {is : List Nat}, okD ops p is = true → is.Pairwise fun j i => pairOk ops p j i = true
  | [], _ => List.Pairwise.nil
  | j :: is, h => by
    simp only [okD, Bool.and_eq_true] at h
    exact List.Pairwise.cons (fun i hi => List.all_eq_true.1 h.1 i hi) (okD_pair h.2)
/-- What is known of one that came up ahead and isn't listed yet. -/
def PenOk (T : Tab) (φ : Phi) (ob : List Ent) (nx0 nx : Nat) (q : Pen) : Prop :=
  q.b = false ∨ ((∀ c ∈ q.cs, c = true) ∧ match q.al with
    | none => isQ q.o.op = true ∧ aq real T q.o.op q.xs ob = some (q.cs, q.v)
    | some (b, ix, n) => isQ q.o.op = false ∧ isAl q.o.op = true ∧ aal real T q.o.op q.xs ix n = some (q.cs, b, q.v) ∧ (⟨ix, n, b⟩ : Ent) ∈ ob ∧ φ ix n = none ∧ nx0 ≤ n ∧ n < nx)
structure Inv (P : Program) (T : Tab) (N : Nat) (nm : List (Nat × Nat)) (ops : Array Oper) (p : Plan) (Q : St → Prop) (φ0 : Phi) (H0 : Nat → Prop) (F : Fr) (nx0 : Nat) (w0 : World) (un : Nat → Bool)
    (φ : Phi) (H : Nat → Prop) (s : St) (D : List Pen) (rest : List Nat) (f : Tf) (a : Act) (w : World) : Prop where
  ext : Ext φ0 H0 F nx0 w0 φ H s.nx w
  rel : Rel φ H F s.ob s.nx w
  defs : a.defers = []
  sz : N ≤ a.tmps.size
  tm : TmR φ H w f a
  dops : ∀ q ∈ D, ops[q.i]? = some q.o ∧ hasN p.chs q.i = false ∧ (∀ d, q.o.dst = some d → d < N) ∧ (q.b = false → q.v = .val undef)
  ord : (D.reverse.map Pen.i ++ rest).Sublist p.order
  cov : ∀ i ∈ p.order, un i = true → (∃ q ∈ D, q.i = i) ∨ i ∈ rest
  rst : ∀ i ∈ rest, un i = true
  runs : Runs ops f (D.reverse.filter fun q => un q.i) (tmget s.tm)
  pen : ∀ q ∈ D, un q.i = true → PenOk T φ s.ob nx0 s.nx q
  aln : ∀ q ∈ D, ∀ b ix n, q.al = some (b, ix, n) → n < s.nx
  alp : D.Pairwise fun x y => ∀ b ix n b' ix' n', x.al = some (b, ix, n) → y.al = some (b', ix', n') → n ≠ n'
  seq : aseqD P real T N nm ops.toList p rest D s Q
variable {ops : Array Oper} {p : Plan} {Q : St → Prop} {φ0 : Phi} {H0 : Nat → Prop} {nx0 : Nat} {w0 : World} {un : Nat → Bool}
/-- What only reads, or makes, is carried out ahead. -/
theorem Inv.norm : ∀ (rest : List Nat) {φ : Phi} {H : Nat → Prop} {s : St} {D : List Pen} {f : Tf} {a : Act} {w : World}, Inv P T N nm ops p Q φ0 H0 F nx0 w0 un φ H s D rest f a w →
    ∃ s' D' rest', Inv P T N nm ops p Q φ0 H0 F nx0 w0 un φ H s' D' rest' f a w ∧ (∀ i r, rest' = i :: r → hasN p.chs i = true)
  | [], φ, H, s, D, f, a, w, hI => ⟨s, D, [], hI, fun i r h => by cases h⟩
  | i :: is, φ, H, s, D, f, a, w, hI => by
    cases hch : hasN p.chs i with
    | true => exact ⟨s, D, i :: is, hI, fun j r h => by cases h; exact hch⟩
    | false =>
      have hseq := hI.seq
      rw [aseqD, lget_of, Array.getElem?_toList] at hseq
      cases ho : ops[i]? with
      | none => simp [ho] at hseq
      | some o =>
        simp only [ho] at hseq
        rw [gsel_eq] at hseq
        cases hw : awant ops.toList s.tm o.guard with
        | none => simp [hw] at hseq
        | some b =>
          simp only [hw] at hseq
          have hw' : awantF ops (tmget s.tm) o.guard = some b := by rw [← awantF_eq]; exact hw
          have hun := hI.rst i List.mem_cons_self
          -- the step, whatever it was
          have go : ∀ (pen : Pen) (ob' : List Ent) (nx' : Nat) (tm' : List (Nat × AV)), pen.i = i → pen.o = o → Cnd ops (tmget s.tm) o pen.b pen.xs → (pen.b = false → pen.v = .val undef) → tput N s.tm o.dst pen.v = some tm' → Ext φ0 H0 F nx0 w0 φ H nx' w → Rel φ H F ob' nx' w →
              (∀ q ∈ D, un q.i = true → PenOk T φ ob' nx0 nx' q) → PenOk T φ ob' nx0 nx' pen → s.nx ≤ nx' → (∀ b ix n, pen.al = some (b, ix, n) → n = s.nx ∧ n < nx') → aseqD P real T N nm ops.toList p is (pen :: D) ⟨tm', ob', nx'⟩ Q →
              ∃ s' D' rest', Inv P T N nm ops p Q φ0 H0 F nx0 w0 un φ H s' D' rest' f a w ∧ (∀ i r, rest' = i :: r → hasN p.chs i = true) := by
            intro pen ob' nx' tm' hi hoo hc hundef ht hext hrel hD hpen hnx hpn hs
            obtain ⟨ht1, ht2⟩ := tput_eq ht
            refine Inv.norm is ⟨hext, hrel, hI.defs, hI.sz, hI.tm, fun q hq => ?_, ?_, fun j hj hu => ?_, fun j hj => hI.rst j (List.mem_cons_of_mem _ hj), ?_, fun q hq hu => ?_, fun q hq b ix n hal => ?_, List.Pairwise.cons (fun x hx b ix n b' ix' n' h1 h2 => by have := (hpn b ix n h1).1; have := hI.aln x hx b' ix' n' h2; omega) hI.alp, hs⟩
            · rcases List.mem_cons.1 hq with rfl | hq
              · rw [hi, hoo]
                exact ⟨ho, hch, ht2, hundef⟩
              · exact hI.dops q hq
            · have := hI.ord
              simp only [List.reverse_cons, List.map_append, List.map_cons, List.map_nil, hi, List.append_assoc, List.singleton_append]
              exact this
            · rcases hI.cov j hj hu with ⟨q, hq, e⟩ | hr
              · exact .inl ⟨q, List.mem_cons_of_mem _ hq, e⟩
              · rcases List.mem_cons.1 hr with rfl | hr
                · exact .inl ⟨pen, List.mem_cons_self, hi⟩
                · exact .inr hr
            · rw [List.reverse_cons, List.filter_append]
              have : [pen].filter (fun q => un q.i) = [pen] := by simp [hi, hun]
              rw [this]
              show Runs ops f _ (tmget tm')
              rw [ht1, ← hoo]
              exact hI.runs.snoc pen (by rw [hoo]; exact hc)
            · rcases List.mem_cons.1 hq with rfl | hq
              · exact hpen
              · exact hD q hq hu
            · rcases List.mem_cons.1 hq with rfl | hq
              · exact (hpn b ix n hal).2
              · exact Nat.lt_of_lt_of_le (hI.aln q hq b ix n hal) hnx
          cases b with
          | false =>
            simp only [cond_false] at hseq
            cases ht : tput N s.tm o.dst (.val undef) with
            | none => simp [ht] at hseq
            | some tm' =>
              simp only [ht, hch, cond_false] at hseq
              exact go ⟨i, o, false, [], [], .val undef, none⟩ s.ob s.nx tm' rfl rfl ⟨hw', fun h => by cases h⟩ (fun _ => rfl) ht hI.ext hI.rel hI.pen (.inl rfl) (Nat.le_refl _) (fun b ix n h => by cases h) hseq
          | true =>
            simp only [cond_true] at hseq
            cases hx : aopds s.tm (opds o.op) with
            | none => simp [hx] at hseq
            | some xs =>
              simp only [hx] at hseq
              have hx' : aopdsF (tmget s.tm) (opds o.op) = some xs := by rw [← aopdsF_eq]; exact hx
              cases hq : isQ o.op with
              | true =>
                simp only [hq, cond_true, hch, cond_false] at hseq
                cases hv : aq real T o.op xs s.ob with
                | none => simp [hv] at hseq
                | some r =>
                  obtain ⟨cs, v⟩ := r
                  simp only [hv] at hseq
                  cases ht : tput N s.tm o.dst v with
                  | none => simp [ht] at hseq
                  | some tm' =>
                    simp only [ht] at hseq
                    obtain ⟨hc, hK⟩ := allc_iff.1 hseq
                    exact go ⟨i, o, true, xs, cs, v, none⟩ s.ob s.nx tm' rfl rfl ⟨hw', fun _ => hx'⟩ (fun h => by cases h) ht hI.ext hI.rel hI.pen (.inr ⟨hc, hq, hv⟩) (Nat.le_refl _) (fun b ix n h => by cases h) hK
              | false =>
                simp only [hq, cond_false] at hseq
                cases hal : isAl o.op with
                | false =>
                  simp [hal, hch] at hseq
                | true =>
                  simp only [hal, cond_true, hch, cond_false] at hseq
                  cases hfi : find s.ob (nmOf nm o.dst) with
                  | some x => simp [hfi] at hseq
                  | none =>
                    cases hv : aal real T o.op xs (nmOf nm o.dst) s.nx with
                    | none => simp [hfi, hv] at hseq
                    | some r =>
                      obtain ⟨cs, b, v⟩ := r
                      simp only [hfi, hv] at hseq
                      cases ht : tput N s.tm o.dst v with
                      | none => simp [ht] at hseq
                      | some tm' =>
                        simp only [ht] at hseq
                        obtain ⟨hc, hK⟩ := allc_iff.1 hseq
                        have hnx0 := hI.ext.nxle
                        have hno : φ (nmOf nm o.dst) s.nx = none := by
                          cases hp : φ (nmOf nm o.dst) s.nx with
                          | none => rfl
                          | some x => have := (hI.rel.lt _ _ x.1 x.2 hp).2; omega
                        refine go ⟨i, o, true, xs, cs, v, some (b, nmOf nm o.dst, s.nx)⟩ (⟨nmOf nm o.dst, s.nx, b⟩ :: s.ob) (s.nx + 1) tm' rfl rfl ⟨hw', fun _ => hx'⟩ (fun h => by cases h) ht (hI.ext.trans (ext_virt φ H F s.nx w)) (hI.rel.virt _ _) (fun q hq hu => ?_) (.inr ⟨hc, hq, hal, hv, List.mem_cons_self, hno, hnx0, Nat.lt_succ_self _⟩) (Nat.le_succ _) (fun b ix n h => by cases h; exact ⟨rfl, Nat.lt_succ_self _⟩) hK
                        rcases hI.pen q hq hu with h | ⟨h1, h2⟩
                        · exact .inl h
                        · refine .inr ⟨h1, ?_⟩
                          cases hqa : q.al with
                          | none =>
                            rw [hqa] at h2
                            exact ⟨h2.1, aq_fresh (e := ⟨nmOf nm o.dst, s.nx, b⟩) hfi h2.2⟩
                          | some r =>
                            obtain ⟨b', ix', n'⟩ := r
                            rw [hqa] at h2
                            obtain ⟨g1, g2, g3, g4, g5, g6, g7⟩ := h2
                            exact ⟨g1, g2, g3, List.mem_cons_of_mem _ g4, g5, g6, Nat.lt_succ_of_lt g7⟩
theorem stab_of {l : List Nat} {ob : List Ent} : ∀ {pd : List Pen}, stab real T l ob pd → ∀ q ∈ pd, hasN l q.i = true → q.chk real T ob
  | [], _, q, hq, _ => by cases hq
  | x :: r, h, q, hq, hl => by
    rw [stab] at h
    rcases List.mem_cons.1 hq with rfl | hq
    · rw [hl] at h; dsimp only at h; exact h.1
    · cases hx : hasN l x.i with
      | true => rw [hx] at h; dsimp only at h; exact stab_of h.2 q hq hl
      | false => rw [hx] at h; dsimp only at h; exact stab_of h q hq hl
/-- Of those unlisted, in order: what lies about one of them. -/
theorem un_split {D : List Pen} {un : Nat → Bool} {i : Nat} (h : ∃ q ∈ D, q.i = i) (hu : un i = true) (hn : (D.map Pen.i).Nodup) :
    ∃ pre q post, D.filter (fun q => un q.i) = pre ++ q :: post ∧ q.i = i ∧ q ∈ D ∧ (∀ x ∈ pre, x ∈ D ∧ un x.i = true ∧ [x.i, i].Sublist (D.map Pen.i)) ∧ D.filter (fun q => un q.i && !eqb q.i i) = pre ++ post := by
  obtain ⟨q, hq, rfl⟩ := h
  obtain ⟨l, r, rfl⟩ := List.append_of_mem hq
  simp only [List.map_append, List.map_cons] at hn
  have hn1 := List.nodup_append.1 hn
  have hl : ∀ x ∈ l, x.i ≠ q.i := fun x hx e => hn1.2.2 x.i (List.mem_map.2 ⟨x, hx, rfl⟩) q.i List.mem_cons_self e
  have hr : ∀ x ∈ r, x.i ≠ q.i := fun x hx e => (List.nodup_cons.1 hn1.2.1).1 (List.mem_map.2 ⟨x, hx, e⟩)
  have hb : ∀ x : Pen, x.i ≠ q.i → eqb x.i q.i = false := fun x hne => by
    cases h2 : eqb x.i q.i with
    | false => rfl
    | true => exact (hne (eqb_eq h2)).elim
  refine ⟨l.filter fun q => un q.i, q, r.filter fun q => un q.i, by rw [List.filter_append, List.filter_cons, if_pos hu], rfl, hq, fun x hx => ?_, ?_⟩
  · have h1 := List.mem_filter.1 hx
    refine ⟨List.mem_append.2 (.inl h1.1), h1.2, ?_⟩
    obtain ⟨l1, l2, rfl⟩ := List.append_of_mem h1.1
    simp only [List.map_append, List.map_cons, List.append_assoc, List.cons_append]
    exact ((List.Sublist.refl _).cons_cons _ |>.trans (((List.singleton_sublist.2 (by simp)).cons_cons x.i))).trans (List.sublist_append_right _ _)
  · rw [List.filter_append, List.filter_cons_of_neg (by simp)]
    congr 1
    · exact List.filter_congr fun x hx => by rw [hb x (hl x hx)]; simp
    · exact List.filter_congr fun x hx => by rw [hb x (hr x hx)]; simp
theorem TmR.put {φ' : Phi} {H' : Nat → Prop} {w' : World} {f : Tf} {a : Act} (h : TmR φ H w f a) (hu : Up φ H w φ' H' w') {d : Option Nat} (hd : ∀ t, d = some t → t < N) (hsz : N ≤ a.tmps.size) {v : AV} {u : Value} (hv : VR φ' H' w' v u) : TmR φ' H' w' (putF f d v) (a.put d u) := by
  intro t x hx
  cases d with
  | none =>
    obtain ⟨y, hy, hyr⟩ := h t x hx
    exact ⟨y, hy, hu.vr _ _ hyr⟩
  | some d =>
    have hlt := Nat.lt_of_lt_of_le (hd d rfl) hsz
    simp only [putF] at hx
    by_cases hdt : d = t
    · subst hdt
      rw [if_pos rfl] at hx
      cases hx
      exact ⟨u, by simp [Act.put, hlt], hv⟩
    · rw [if_neg hdt] at hx
      obtain ⟨y, hy, hyr⟩ := h t x hx
      refine ⟨y, ?_, hu.vr _ _ hyr⟩
      simp only [Act.put]
      rw [Array.getElem?_setIfInBounds_ne hdt]
      exact hy
theorem pair_of_sub {order l : List Nat} (h : l.Sublist order) (hp : order.Pairwise fun j i => pairOk ops p j i = true) {j i : Nat} (hs : [j, i].Sublist l) : pairOk ops p j i = true := by
  have := hp.sublist (hs.trans h)
  exact (List.pairwise_cons.1 this).1 i (by simp)
theorem ap_spec {j i : Nat} {oj oi : Oper} (h : apB ops j i = true) (hj : ops[j]? = some oj) (hi : ops[i]? = some oi) : oj.apart ops oi = true := by
  unfold apB at h
  rw [hj, hi] at h
  exact h
theorem al_ne {D : List Pen} (h : D.Pairwise fun x y => ∀ b ix n b' ix' n', x.al = some (b, ix, n) → y.al = some (b', ix', n') → n ≠ n') {x y : Pen} (hx : x ∈ D) (hy : y ∈ D) (hne : x ≠ y) {b b' : Ob} {ix n ix' n' : Nat} (h1 : x.al = some (b, ix, n)) (h2 : y.al = some (b', ix', n')) : n ≠ n' := by
  induction D with
  | nil => cases hx
  | cons z r ih =>
    have hp := List.pairwise_cons.1 h
    rcases List.mem_cons.1 hx with rfl | hx'
    · rcases List.mem_cons.1 hy with rfl | hy'
      · exact (hne rfl).elim
      · exact hp.1 y hy' _ _ _ _ _ _ h1 h2
    · rcases List.mem_cons.1 hy with rfl | hy'
      · exact fun e => hp.1 x hx' _ _ _ _ _ _ h2 h1 e.symm
      · exact ih hp.2 hx' hy'
theorem sub_two {l : List Nat} {j c : Nat} (h : j ∈ l) (is : List Nat) : [j, c].Sublist (l ++ c :: is) := by
  have h1 : [j].Sublist l := List.singleton_sublist.2 h
  have h2 : [c].Sublist (c :: is) := List.singleton_sublist.2 (by simp)
  exact h1.append h2
/-- The step: whichever operation comes up next. -/
theorem Inv.step (hT : TabOk P T) (hp : p.order.Pairwise fun j i => pairOk ops p j i = true) {un' : Nat → Bool} {i : Nat} (hio : i ∈ p.order) (hui : un i = true) (hun' : un' = fun j => un j && !eqb j i)
    (hcl : ∀ k j, depB .any ops k j = true → un k = false → un j = false) (hrdy : ∀ j, depB .any ops i j = true → un j = false)
    {φ : Phi} {H : Nat → Prop} {s : St} {D : List Pen} {rest : List Nat} {f : Tf} {a : Act} {w : World} (hI : Inv P T N nm ops p Q φ0 H0 F nx0 w0 un φ H s D rest f a w) {QQ : Exit → Act → World → Prop} :
    wpOp P ops QQ i (fun a' w' => ∃ φ' H' s' D' rest' f', Inv P T N nm ops p Q φ0 H0 F nx0 w0 un' φ' H' s' D' rest' f' a' w') a w := by
  obtain ⟨s, D, rest, hI, hhead⟩ := hI.norm
  have noreach : ∀ j, un j = true → j ≠ i → reach .any ops j 40 i = false := fun j hj hji => by
    cases hr : reach .any ops j 40 i with
    | false => rfl
    | true =>
      have h1 := reach_ready (c := fun j => !un j) (fun k j hk hc => by
        have hc : un k = false := by simpa using hc
        simp [hcl k j hk hc]) (i := i) (j := j) (fun j hj => by simp [hrdy j hj]) (fun e => hji e.symm) 40 hr
      simp [hj] at h1
  have hnodup : ((D.reverse.map Pen.i) ++ rest).Nodup := by
    have h1 := hp.sublist hI.ord
    refine h1.imp fun {j k} hjk e => ?_
    subst e
    simp [pairOk] at hjk
  have hnd1 := List.nodup_append.1 hnodup
  have hun'i : un' i = false := by rw [hun']; simp
  have hun'k : ∀ k, k ≠ i → un' k = un k := fun k hk => by
    rw [hun']
    have : eqb k i = false := by
      cases h2 : eqb k i with
      | false => rfl
      | true => exact (hk (eqb_eq h2)).elim
    simp [this]
  rcases hI.cov i hio hui with hD | hR
  · -- one that was carried out ahead
    have hD' : ∃ q ∈ D.reverse, q.i = i := by obtain ⟨q, hq, e⟩ := hD; exact ⟨q, by simpa using hq, e⟩
    obtain ⟨pre, q, post, e1, rfl, hqD, hpre, e2⟩ := un_split hD' hui hnd1.1
    have hqD : q ∈ D := by simpa using hqD
    have hruns := hI.runs
    rw [e1] at hruns
    obtain ⟨hqo, hqch, hqdst, hqund⟩ := hI.dops q hqD
    obtain ⟨hc, hruns'⟩ := hruns.pull fun x hx => by
      obtain ⟨hxD, hxu, hxs⟩ := hpre x hx
      have hxD : x ∈ D := by simpa using hxD
      obtain ⟨hxo, hxch, _⟩ := hI.dops x hxD
      have hpo := pair_of_sub hI.ord hp (hxs.trans (List.sublist_append_left _ _))
      have hne : x.i ≠ q.i := fun e => by rw [e] at hpo; simp [pairOk] at hpo
      simp only [pairOk, hxch, cond_false, Bool.and_eq_true, Bool.or_eq_true] at hpo
      rcases hpo.2.1 with h | h
      · rw [noreach x.i hxu hne] at h; cases h
      · exact ap_spec h hxo hqo
    have hfil : D.reverse.filter (fun x => un' x.i) = pre ++ post := by rw [hun']; exact e2
    -- what is left is as it was
    have fin : ∀ (φ' : Phi) (w' : World) (u : Value), Ext φ0 H0 F nx0 w0 φ' H s.nx w' → Rel φ' H F s.ob s.nx w' → Up φ H w φ' H w' → VR φ' H w' q.v u → (∀ x ∈ D, un' x.i = true → PenOk T φ s.ob nx0 s.nx x → PenOk T φ' s.ob nx0 s.nx x) →
        Inv P T N nm ops p Q φ0 H0 F nx0 w0 un' φ' H s D rest (putF f q.o.dst q.v) (a.put q.o.dst u) w' := fun φ' w' u hext hrel hup hv hpen =>
      ⟨hext, hrel, by rw [put_defers]; exact hI.defs, by rw [put_size]; exact hI.sz, hI.tm.put hup hqdst hI.sz hv, hI.dops, hI.ord, fun k hk hu => hI.cov k hk (by rw [hun'] at hu; simp at hu; exact hu.1),
        fun k hk => by
          have hne : k ≠ q.i := fun e => hnd1.2.2 q.i (List.mem_map.2 ⟨q, by simpa using hqD, rfl⟩) k hk e.symm
          rw [hun'k k hne]; exact hI.rst k hk,
        by rw [hfil]; exact hruns', fun x hx hu => hpen x hx hu (hI.pen x hx (by rw [hun'] at hu; simp at hu; exact hu.1)), hI.aln, hI.alp, hI.seq⟩
    unfold wpOp
    rw [hqo]
    simp only
    rw [awantF_ok hI.tm hc.1]
    cases hb : q.b with
    | false =>
      rw [if_neg (by simp)]
      exact ⟨φ, H, s, D, rest, _, fin φ w undef hI.ext hI.rel (Up.refl _ _ _) (by rw [hqund hb]; rfl) fun x hx hu h => h⟩
    | true =>
      rw [if_pos rfl]
      rcases hI.pen q hqD hui with h | ⟨hcs, hk⟩
      · rw [hb] at h; cases h
      have hx := aopdsF_ok hI.tm (hc.2 hb)
      left
      cases hal : q.al with
      | none =>
        rw [hal] at hk
        obtain ⟨u, hrun, hvr⟩ := aq_ok hT hI.rel q.o hx hk.2 hcs
        exact wp_value hrun ⟨φ, H, s, D, rest, _, fin φ w u hI.ext hI.rel (Up.refl _ _ _) hvr fun x hx hu h => h⟩
      | some r =>
        obtain ⟨b, ix, n⟩ := r
        rw [hal] at hk
        obtain ⟨_, _, haal, hmem, hno, hn0, hn1⟩ := hk
        obtain ⟨c, e, u, hrun, ho, hv⟩ := aal_ok hT q.o hx haal hcs
        obtain ⟨hrel, hup⟩ := hI.rel.born hmem hno hn1 ho
        have hea := hI.rel.ext_alloc ix (.cells c e)
        refine wp_value hrun ⟨_, H, s, D, rest, _, fin (upd φ ix n (w.heap.size, 0)) _ u ?_ hrel hup (hv _ _ (upd_self _ _ _ _)) fun x hx hu h => ?_⟩
        · refine ⟨hI.ext.up.trans hup, hI.ext.nxle, fun i' b' hb' => ?_, fun b' hb' => (hea.frm b' hb').trans (hI.ext.frm b' hb'), Nat.le_trans hI.ext.size hea.size, hI.ext.os, hI.ext.tape, hI.ext.output⟩
          rw [upd_old _ _ _ _ _ _ (by omega)]
          exact hI.ext.old i' b' hb'
        · rcases h with h | ⟨h1, h2⟩
          · exact .inl h
          · refine .inr ⟨h1, ?_⟩
            cases hxa : x.al with
            | none => rw [hxa] at h2; exact h2
            | some r =>
              obtain ⟨b', ix', n'⟩ := r
              rw [hxa] at h2
              obtain ⟨g1, g2, g3, g4, g5, g6, g7⟩ := h2
              refine ⟨g1, g2, g3, g4, ?_, g6, g7⟩
              have hne : n ≠ n' := by
                have hxq : x ≠ q := fun e => by rw [e, hun'i] at hu; cases hu
                exact al_ne hI.alp hqD hx (fun e => hxq e.symm) hal hxa
              rw [upd_old _ _ _ _ _ _ (fun e => hne e.symm)]
              exact g5
  · -- one that turns the memory
    cases rest with
    | nil => cases hR
    | cons c is =>
      have hcc := hhead c is rfl
      have hci : c = i := by
        rcases List.mem_cons.1 hR with h | h
        · exact h.symm
        · have hpo := pair_of_sub hI.ord hp (j := c) (i := i) (((List.singleton_sublist.2 h).cons_cons c).trans (List.sublist_append_right _ _))
          have hne : c ≠ i := fun e => by rw [e] at hpo; simp [pairOk] at hpo
          simp only [pairOk, hcc, cond_true, Bool.and_eq_true] at hpo
          rw [noreach c (hI.rst c List.mem_cons_self) hne] at hpo
          cases hpo.2.1
      subst hci
      have hseq := hI.seq
      rw [aseqD, lget_of, Array.getElem?_toList] at hseq
      cases ho : ops[c]? with
      | none => simp [ho] at hseq
      | some o =>
        simp only [ho] at hseq
        rw [gsel_eq] at hseq
        cases hw : awant ops.toList s.tm o.guard with
        | none => simp [hw] at hseq
        | some b =>
          simp only [hw] at hseq
          have hw' : awantF ops (tmget s.tm) o.guard = some b := by rw [← awantF_eq]; exact hw
          -- the operations ahead of it have nothing to do with it
          have hap : ∀ q ∈ D.reverse.filter (fun q => un q.i), q.o.apart ops o = true ∧ hasN (rcOf p.rc c) q.i = true := fun q hq => by
            have hq1 := List.mem_filter.1 hq
            have hqD : q ∈ D := by simpa using hq1.1
            obtain ⟨hqo, hqch, _⟩ := hI.dops q hqD
            have hpo := pair_of_sub hI.ord hp (j := q.i) (i := c) (sub_two (List.mem_map.2 ⟨q, hq1.1, rfl⟩) is)
            have hne : q.i ≠ c := fun e => by rw [e] at hpo; simp [pairOk] at hpo
            simp only [pairOk, hqch, hcc, cond_false, cond_true, Bool.and_eq_true, Bool.or_eq_true, Bool.false_or] at hpo
            have hnr := noreach q.i hq1.2 hne
            refine ⟨?_, ?_⟩
            · rcases hpo.2.1 with h | h
              · rw [hnr] at h; cases h
              · exact ap_spec h hqo ho
            · rcases hpo.2.2 with h | h
              · exact h
              · rw [hnr] at h; cases h
          have hcun : ∀ q ∈ D, q.i ≠ c := fun q hq e => hnd1.2.2 q.i (List.mem_map.2 ⟨q, by simpa using hq, rfl⟩) c List.mem_cons_self e
          have hfil : D.reverse.filter (fun x => un' x.i) = D.reverse.filter (fun x => un x.i) := List.filter_congr fun x hx => hun'k x.i (hcun x (by simpa using hx))
          -- its test and operands as they are now
          have pulled : ∀ (xs : List AV) (v : AV), (b = true → aopdsF (tmget s.tm) (opds o.op) = some xs) → Cnd ops f o b xs ∧ Runs ops (putF f o.dst v) (D.reverse.filter fun q => un q.i) (putF (tmget s.tm) o.dst v) := fun xs v hxs => by
            have h1 := hI.runs.snoc ⟨c, o, b, xs, [], v, none⟩ ⟨hw', hxs⟩
            have h2 := Runs.pull (p := ⟨c, o, b, xs, [], v, none⟩) (post := []) (fun q hq => (hap q hq).1) h1
            rw [List.append_nil] at h2
            exact h2
          have hrst : ∀ k ∈ is, un' k = true := fun k hk => by
            have hne : k ≠ c := fun e => (List.nodup_cons.1 hnd1.2.1).1 (e ▸ hk)
            rw [hun'k k hne]
            exact hI.rst k (List.mem_cons_of_mem _ hk)
          have hcov : ∀ k ∈ p.order, un' k = true → (∃ q ∈ D, q.i = k) ∨ k ∈ is := fun k hk hu => by
            have hne : k ≠ c := fun e => by rw [e, hun'i] at hu; cases hu
            rw [hun'k k hne] at hu
            rcases hI.cov k hk hu with h | h
            · exact .inl h
            · rcases List.mem_cons.1 h with h | h
              · exact (hne h).elim
              · exact .inr h
          have hord : (D.reverse.map Pen.i ++ is).Sublist p.order := ((List.Sublist.refl _).append (List.sublist_cons_self c is)).trans hI.ord
          unfold wpOp
          rw [ho]
          simp only
          cases b with
          | false =>
            rw [awantF_ok hI.tm (pulled [] (.val undef) (fun h => by cases h)).1.1, if_neg (by simp)]
            simp only [cond_false] at hseq
            cases ht : tput N s.tm o.dst (.val undef) with
            | none => simp [ht] at hseq
            | some tm' =>
              simp only [ht, hcc, cond_true] at hseq
              obtain ⟨ht1, ht2⟩ := tput_eq ht
              refine ⟨φ, H, ⟨tm', s.ob, s.nx⟩, D, is, putF f o.dst (.val undef), hI.ext, hI.rel, by rw [put_defers]; exact hI.defs, by rw [put_size]; exact hI.sz, hI.tm.put (Up.refl _ _ _) ht2 hI.sz rfl, hI.dops, hord, hcov, hrst, ?_, fun q hq hu => hI.pen q hq (by rw [hun'] at hu; simp at hu; exact hu.1), hI.aln, hI.alp, hseq⟩
              rw [hfil]
              show Runs ops _ _ (tmget tm')
              rw [ht1]
              exact (pulled [] (.val undef) (fun h => by cases h)).2
          | true =>
            simp only [cond_true] at hseq
            cases hx : aopds s.tm (opds o.op) with
            | none => simp [hx] at hseq
            | some xs =>
              simp only [hx] at hseq
              have hx' : aopdsF (tmget s.tm) (opds o.op) = some xs := by rw [← aopdsF_eq]; exact hx
              have hcnd := (pulled xs (.val undef) (fun _ => hx')).1
              rw [awantF_ok hI.tm hcnd.1, if_pos rfl]
              cases hq : isQ o.op with
              | true => simp [hq, hcc] at hseq
              | false =>
                simp only [hq, cond_false] at hseq
                cases hal : isAl o.op with
                | true => simp [hal, hcc] at hseq
                | false =>
                  simp only [hal, cond_false, hcc, cond_true] at hseq
                  rcases ach_ok hT hI.rel (aopdsF_ok hI.tm (hcnd.2 rfl)) hseq with h | h
                  · left
                    refine Oper.wp_mono (fun a' w' hk => ?_) h
                    obtain ⟨v, u, ob', nx', φ', H', rfl, ⟨hst, hK⟩, hext, hrel, hvr⟩ := hk
                    cases ht : tput N s.tm o.dst v with
                    | none => simp [ht] at hK
                    | some tm' =>
                      simp only [ht] at hK
                      obtain ⟨ht1, ht2⟩ := tput_eq ht
                      refine ⟨φ', H', ⟨tm', ob', nx'⟩, D, is, putF f o.dst v, hI.ext.trans hext, hrel, by rw [put_defers]; exact hI.defs, by rw [put_size]; exact hI.sz, hI.tm.put hext.up ht2 hI.sz hvr, hI.dops, hord, hcov, hrst, ?_, fun q hq hu => ?_, fun q hq b ix n hal => Nat.lt_of_lt_of_le (hI.aln q hq b ix n hal) hext.nxle, hI.alp, hK⟩
                      · rw [hfil]
                        show Runs ops _ _ (tmget tm')
                        rw [ht1]
                        exact (pulled xs v (fun _ => hx')).2
                      · have hu1 : un q.i = true := by rw [hun'] at hu; simp at hu; exact hu.1
                        have hchk := stab_of hst q hq (hap q (List.mem_filter.2 ⟨by simpa using hq, hu1⟩)).2
                        rcases hI.pen q hq hu1 with h | ⟨h1, h2⟩
                        · exact .inl h
                        · refine (Bool.eq_false_or_eq_true q.b).symm.imp id fun hqb => ⟨h1, ?_⟩
                          unfold Pen.chk at hchk
                          cases hqa : q.al with
                          | none =>
                            rw [hqa] at h2 hchk
                            refine ⟨h2.1, ?_⟩
                            cases hl : isLoad q.o.op with
                            | true => simpa [hqb, hl] using hchk
                            | false => rw [aq_ob hl q.xs ob' s.ob]; exact h2.2
                          | some r =>
                            obtain ⟨b', ix', n'⟩ := r
                            rw [hqa] at h2 hchk
                            obtain ⟨g1, g2, g3, g4, g5, g6, g7⟩ := h2
                            exact ⟨g1, g2, g3, (find_mem hchk).1, by rw [hext.old ix' n' g7]; exact g5, g6, Nat.lt_of_lt_of_le g7 hext.nxle⟩
                  · exact .inr h
end
end Go.Proofs.Ytckkcgkgfkgfdaa.AM
