/- What an append means over an abstract memory and in a world. Plain laws; no condition. -/
import Derived.Test.YtckkcgkgfkgfdaaAmK
set_option linter.unusedVariables false
set_option linter.unusedSimpArgs false
namespace Go.Proofs.Ytckkcgkgfkgfdaa.AM
universe u
section
variable {φ : Phi} {H : Nat → Prop} {F : Fr} {w : World} {ob : List Ent} {nx : Nat} {P : Program} {T : Tab}
theorem Rel.drew (hR : Rel φ H F ob nx w) : Rel φ H F ob nx w.drew := by
  have hu : Up φ H w φ H w.drew := ⟨fun _ _ _ h => h, fun _ h => h, fun _ _ => rfl, fun _ _ _ h => h, fun _ _ _ _ h => h⟩
  exact ⟨hR.lt, hR.hlt, hR.flt, hR.hf, fun e he b o h => by obtain ⟨h1, h2, h3⟩ := hR.obs e he b o h; exact ⟨h1, h2, h3.up hu rfl⟩, hR.nb, hR.nd, hR.inj, hR.fnm⟩
theorem ext_drew (φ : Phi) (H : Nat → Prop) (F : Fr) (nx : Nat) (w : World) : Ext φ H F nx w φ H nx w.drew :=
  ⟨⟨fun _ _ _ h => h, fun _ h => h, fun _ _ => rfl, fun _ _ _ h => h, fun _ _ _ _ h => h⟩, Nat.le_refl _, fun _ _ _ => rfl, fun _ _ => rfl, Nat.le_refl _, rfl, rfl, rfl⟩
theorem Rel.sub (hR : Rel φ H F ob nx w) {ob' : List Ent} (h : ob'.Sublist ob) : Rel φ H F ob' nx w :=
  ⟨hR.lt, hR.hlt, hR.flt, hR.hf, fun e he => hR.obs e (h.subset he), fun e he => hR.nb e (h.subset he), hR.nd.sublist h, hR.inj.sublist h, hR.fnm.1, fun e he => hR.fnm.2 e (h.subset he)⟩
theorem Rel.up (hR : Rel φ H F ob nx w) {n' : Nat} (h : nx ≤ n') : Rel φ H F ob n' w :=
  ⟨fun i b x y k => ⟨(hR.lt i b x y k).1, Nat.lt_of_lt_of_le (hR.lt i b x y k).2 h⟩, hR.hlt, hR.flt, hR.hf, hR.obs, fun e he => Nat.lt_of_lt_of_le (hR.nb e he) h, hR.nd, hR.inj, fun i b k => Nat.lt_of_lt_of_le (hR.fnm.1 i b k) h, hR.fnm.2⟩
theorem del_sub : ∀ (ob : List Ent) (ix : Nat), (delOb ob ix).Sublist ob
  | [], _ => List.Sublist.refl _
  | e :: r, ix => by
    rw [delOb]
    cases eqb e.ix ix with
    | true => exact List.sublist_cons_self _ _
    | false => exact (del_sub r ix).cons_cons e
/-- An object that isn't there yet. -/
theorem Rel.virt (hR : Rel φ H F ob nx w) (ix : Nat) (o : Ob) : Rel φ H F (⟨ix, nx, o⟩ :: ob) (nx + 1) w := by
  have hno : ∀ x, φ ix nx = some x → False := fun x h => by have := (hR.lt ix nx x.1 x.2 h).2; omega
  have hR' := hR.up (Nat.le_succ nx)
  refine ⟨hR'.lt, hR.hlt, hR.flt, hR.hf, fun e he b y h => ?_, fun e he => ?_, List.Pairwise.cons (fun x hm => .inr (by have := hR.nb x hm; simp only; omega)) hR.nd, List.Pairwise.cons (fun x _ b y b' y' h _ => (hno _ h).elim) hR.inj, ⟨hR'.fnm.1, fun x hx h => by
    rcases List.mem_cons.1 hx with rfl | hx
    · have := hR.fnm.1 _ _ h; simp only at this; omega
    · exact hR.fnm.2 x hx h⟩⟩
  · rcases List.mem_cons.1 he with rfl | he
    · exact (hno _ h).elim
    · exact hR.obs e he b y h
  · rcases List.mem_cons.1 he with rfl | he
    · exact Nat.lt_succ_self _
    · exact Nat.lt_succ_of_lt (hR.nb e he)
theorem ext_virt (φ : Phi) (H : Nat → Prop) (F : Fr) (nx : Nat) (w : World) : Ext φ H F nx w φ H (nx + 1) w :=
  ⟨Up.refl _ _ _, Nat.le_succ _, fun _ _ _ => rfl, fun _ _ => rfl, Nat.le_refl _, rfl, rfl, rfl⟩
/-- An object under a new name, its row written. -/
theorem Rel.renew (hR : Rel φ H F ob nx w) {ix : Nat} {en : Ent} (hf : find ob ix = some en) {b o k : Nat} (hp : φ en.ix en.bs = some (b, o)) {cur cur' : Array Value} {e : TypeId} (hb : w.heap[b]? = some (.cells cur e (0, 0))) (hs : cur'.size = cur.size)
    {o' : Ob} (ho : ∀ φ', Up φ H w φ' H (w.setRow b cur') → ObR φ' H (w.setRow b cur') o' b k) :
    Rel (upd φ ix nx (b, k)) H F (⟨ix, nx, o'⟩ :: delOb ob ix) (nx + 1) (w.setRow b cur') ∧ Ext φ H F nx w (upd φ ix nx (b, k)) H (nx + 1) (w.setRow b cur') := by
  obtain ⟨hH, hF, _⟩ := hR.obs en (find_mem hf).1 b o hp
  have hx := hR.ext_set hb hs hH hF
  obtain ⟨l, r, h1, _, h3⟩ := find_split hf
  have hinj := hR.inj
  rw [h1] at hinj
  have hp1 := List.pairwise_append.1 hinj
  have hp2 := List.pairwise_cons.1 hp1.2.1
  have hm : ∀ x ∈ delOb ob ix, x ∈ ob := fun x hx => (del_sub ob ix).subset hx
  have other : ∀ x ∈ delOb ob ix, ∀ b' y, φ x.ix x.bs = some (b', y) → b' ≠ b := fun x hx b' y h => by
    rw [h3] at hx
    rcases List.mem_append.1 hx with hx | hx
    · exact hp1.2.2 x hx en List.mem_cons_self b' y b o h hp
    · exact fun e => hp2.1 x hx b o b' y hp h e.symm
  have hφ : ∀ i c x y, upd φ ix nx (b, k) i c = some (x, y) → (i = ix ∧ c = nx ∧ x = b ∧ y = k) ∨ φ i c = some (x, y) := fun i c x y h => by
    unfold upd at h
    split at h
    · rename_i hc; cases h; exact .inl ⟨hc.1, hc.2, rfl, rfl⟩
    · exact .inr h
  have hne : ∀ x ∈ ob, ∀ c y, upd φ ix nx (b, k) x.ix x.bs = some (c, y) → φ x.ix x.bs = some (c, y) := fun x hm c y h => by
    rcases hφ _ _ _ _ h with ⟨_, h2, _⟩ | h2
    · have := hR.nb x hm; omega
    · exact h2
  have hup : Up φ H w (upd φ ix nx (b, k)) H (w.setRow b cur') := ⟨fun i c x h => by
    have := (hR.lt i c x.1 x.2 h).2
    rw [upd_old _ _ _ _ _ _ (by omega)]; exact h, hx.up.held, hx.up.blk, hx.up.shp, hx.up.frz⟩
  refine ⟨⟨fun i c x y h => ?_, fun c hc => by rw [setRow_size]; exact hR.hlt c hc, fun c hc => by rw [setRow_size]; exact hR.flt c hc, hR.hf, fun x hxm c y h => ?_, fun x hxm => ?_, List.Pairwise.cons (fun x hxm => .inr (by have := hR.nb x (hm x hxm); simp only; omega)) (hR.nd.sublist (del_sub ob ix)), List.Pairwise.cons (fun x hxm c y c' y' h h' => ?_) ((hR.inj.sublist (del_sub ob ix)).imp_of_mem fun {a c} ha hc hac x y x' y' h h' => ?_), ⟨fun i b h => Nat.lt_succ_of_lt (hR.fnm.1 i b h), fun x hx h => by
    rcases List.mem_cons.1 hx with rfl | hx
    · have := hR.fnm.1 _ _ h; simp only at this; omega
    · exact hR.fnm.2 x (hm x hx) h⟩⟩,
    ⟨hup, Nat.le_succ _, fun i c hc => upd_old _ _ _ _ _ _ (by omega), hx.frm, hx.size, rfl, rfl, rfl⟩⟩
  · rw [setRow_size]
    rcases hφ _ _ _ _ h with ⟨_, h2, rfl, _⟩ | h2
    · exact ⟨(hR.lt _ _ _ _ hp).1, by omega⟩
    · have := hR.lt _ _ _ _ h2; omega
  · rcases List.mem_cons.1 hxm with rfl | hxm
    · simp only [upd_self] at h
      cases h
      exact ⟨hH, hF, ho _ hup⟩
    · have h2 := hne x (hm x hxm) c y h
      obtain ⟨q1, q2, q3⟩ := hR.obs x (hm x hxm) c y h2
      exact ⟨q1, q2, q3.up hup (setRow_other w b c cur' (other x hxm c y h2))⟩
  · rcases List.mem_cons.1 hxm with rfl | hxm
    · exact Nat.lt_succ_self _
    · exact Nat.lt_succ_of_lt (hR.nb x (hm x hxm))
  · simp only [upd_self] at h
    cases h
    exact fun e => other x hxm c' y' (hne x (hm x hxm) _ _ h') e.symm
  · exact hac x y x' y' (hne a (hm a ha) _ _ h) (hne c (hm c hc) _ _ h')
/-- What an append comes to. -/
def AppGoal (P : Program) (φ : Phi) (H : Nat → Prop) (F : Fr) (nx : Nat) (w : World) (t ty : TypeId) (ub ux : Value) (v : AV) (ob' : List Ent) : Prop :=
  ∃ u w' φ', (Builtin.append_ #[t, t] ty #[ub, ux]).run P w = .ok u w' ∧ Ext φ H F nx w φ' H (nx + 1) w' ∧ Rel φ' H F ob' (nx + 1) w' ∧ VR φ' H w' v u
/-- A new row. -/
theorem app_new (hT : TabOk P T) (hR : Rel φ H F ob nx w) {t e ty : TypeId} {s b : Nat} {z0 : Option Value} {q : Bool} {ei : TI} {z : Value} (hi : tget T t = some ⟨.slice e, s, b, z0, q⟩) (he : tget T e = some ei) (hz : ei.zero = some z) (hzs : z.cells.size = ei.size) (hb0 : 0 < ei.bytes)
    (bd : Option Addr) {n cap m c : Nat} {ad : Addr} {olds : List AV} {ous : List Value} {xs : List AV} {us : List Value} (hr : VRs φ H w olds ous) (ho : Ones ei.size ous) (hon : ous.length = n) (hbd : bd = none → n = 0 ∧ cap = 0)
    (hold : ∀ a, bd = some a → (∀ j v, (fl ous)[j]? = some v → w.cell? (a.add j) = some v) ∧ Room.holdsV w a (n * ei.size) = true ∧ w.frozen? (a.add (n / 2 * ei.size)) = false)
    (hxr : VRs φ H w xs us) (hxo : Ones ei.size us) (hxn : us.length = m) (hm : 0 < m) (hst : 0 < ei.size) (hsp : ad.spot = none) (hrg : w.rangeAt ad.block ad.off (fl us)) (hap : (n + m) * ei.bytes ≤ 140737488355328) (hg : cap < n + m) {ob1 : List Ent} (hsub : ob1.Sublist ob) (ix : Nat) :
    AppGoal P φ H F nx w t ty (.slice bd n cap) (.slice (some ad) m c) (.own ix nx ei.size 0 (n + m)) (⟨ix, nx, .row e ei.size (.list ei.size true true (olds ++ xs))⟩ :: ob1) := by
  have hln : (fl us).length = m * ei.size := by rw [fl_len hxo, hxn]
  have hlo : (fl ous).length = n * ei.size := by rw [fl_len ho, hon]
  have hx0 : Room.holdsV w ad (m * ei.size) = true := by
    rw [← hln]
    exact holds_of_range hsp hrg (by rw [hln]; exact Nat.mul_pos hm hst)
  have hnews : ∀ j u, (fl us)[j]? = some u → w.cell? (ad.add j) = some u := fun j u hj => by
    obtain ⟨bk, of, sp⟩ := ad
    obtain rfl : sp = none := hsp
    rw [addr_add]; exact hrg j u hj
  rcases run_append_new (P := P) (ty := ty) hT hi he hz hzs hb0 bd hlo hbd hold (c := c) hln hnews hm hx0 hap hg with ⟨rest, k, h1, h2, h3⟩
  · have hR1 := (hR.sub hsub).drew
    have hxd := ext_drew φ H F nx w
    have hsz : w.drew.heap.size = w.heap.size := rfl
    have hal := hR1.alloc ix (c := (fl ous ++ fl us ++ rest).toArray) (e := e) (o := .row e ei.size (.list ei.size true true (olds ++ xs))) (fun φ' H' hu => by
      refine ⟨olds ++ xs, [], ous ++ us, rest, rfl, ?_, rfl, ?_, ones_append ho hxo⟩
      · rw [heap_alloc_new, fl_append, List.nil_append]
      · have hu' := hxd.up.trans hu
        exact vrs_append (hu'.vrs _ _ hr) (hu'.vrs _ _ hxr))
    have hxa := hR1.ext_alloc ix (.cells (fl ous ++ fl us ++ rest).toArray e)
    refine ⟨_, _, _, h1, hxd.trans hxa, hal, ?_⟩
    have hw : (w.drew.alloc (.cells (fl ous ++ fl us ++ rest).toArray e)).heap[w.drew.heap.size]? = some (.cells (fl ous ++ fl us ++ rest).toArray e (0, 0)) := heap_alloc_new _ _
    exact vr_new_row (upd_self _ _ _ _) hw k h2 (by simp only [List.size_toArray]; omega)
theorem inj_ne {ob : List Ent} (h : ob.Pairwise fun e e' => ∀ b o b' o', φ e.ix e.bs = some (b, o) → φ e'.ix e'.bs = some (b', o') → b ≠ b') {x y : Ent} (hx : x ∈ ob) (hy : y ∈ ob) (hne : x ≠ y) {b o b' o' : Nat} (h1 : φ x.ix x.bs = some (b, o)) (h2 : φ y.ix y.bs = some (b', o')) : b ≠ b' := by
  induction ob with
  | nil => cases hx
  | cons z r ih =>
    have hp := List.pairwise_cons.1 h
    rcases List.mem_cons.1 hx with rfl | hx'
    · rcases List.mem_cons.1 hy with rfl | hy'
      · exact (hne rfl).elim
      · exact hp.1 y hy' b o b' o' h1 h2
    · rcases List.mem_cons.1 hy with rfl | hy'
      · exact fun e => hp.1 x hx' b' o' b o h2 h1 e.symm
      · exact ih hp.2 hx' hy'
theorem zsize {z : Value} {st : Nat} (hone : ∀ c ∈ z.cells.toList, c.oneCell' = true) (h : eqb (llen (flat (ofV z))) st = true) : z.cells.size = st := by
  have := eqb_eq h
  rw [llen_eq, vrs_len (vr_flat (φ := fun _ _ => none) (H := fun _ => False) (w := default) (vr_ofV hone))] at this
  simpa using this
set_option maxHeartbeats 1000000 in
theorem aapp_ok (hT : TabOk P T) (hR : Rel φ H F ob nx w) {base x : AV} {ub ux : Value} (hb : VR φ H w base ub) (hx : VR φ H w x ux) {ts : List TypeId} {ixn : Nat} {cs : List Bool} {v : AV} {ob' : List Ent}
    (h : aapp real T ts base x ob ixn nx = some (cs, v, ob')) (hc : ∀ c ∈ cs, c = true) (ty : TypeId) : ∃ t, ts = [t, t] ∧ AppGoal P φ H F nx w t ty ub ux v ob' := by
  unfold aapp at h
  split at h
  · rename_i t t'
    cases h1 : eqb t t' <;> simp only [h1, cond_false, cond_true, reduceCtorEq] at h
    obtain rfl := eqb_eq h1
    refine ⟨t, rfl, ?_⟩
    split at h
    · rename_i e s b z0 q hi
      split at h
      · rename_i d st by_ z q' he
        cases h2 : okst st st <;> simp only [h2, cond_false, cond_true, reduceCtorEq] at h
        cases h3 : okst by_ by_ <;> simp only [h3, cond_false, cond_true, reduceCtorEq] at h
        cases h4 : eqb (llen (flat (ofV z))) st <;> simp only [h4, cond_false, cond_true, reduceCtorEq] at h
        have hst := (okst_of h2).2
        have hby := (okst_of h3).2
        have hzs := zsize (hT.zone he) h4
        cases hsrc : srcE real st (140737488355328 / by_) x ob with
        | none => simp [hsrc] at h
        | some r =>
          obtain ⟨cs', xs, m⟩ := r
          simp only [hsrc] at h
          have hlimb : ∀ m, m ≤ 140737488355328 / by_ → m * by_ ≤ 140737488355328 := fun m hm => Nat.mul_le_of_le_div _ _ _ hm
          -- onto a row of nothing
          have onto : ∀ (a : Option Addr) (ix : Nat) (ob1 : List Ent), ob1.Sublist ob → ub = .slice a 0 0 → (∀ ad, a = some ad → okAd w ad 0) → (∀ c ∈ cs', c = true) →
              AppGoal P φ H F nx w t ty ub ux (.own ix nx st 0 m) (⟨ix, nx, .row e st (.list st true true xs)⟩ :: ob1) := fun a ix ob1 hsub hub hok hcs => by
            obtain ⟨a2, c2, us, hux, hxr, hxo, hxn, hlim, hadr⟩ := (srcE_ok hR hst hx hsrc hcs).out
            subst hub hux
            rcases Nat.eq_zero_or_pos m with rfl | hm
            · exact ⟨_, _, φ, run_append_zero hT hi he a a2 0 0 c2 (Nat.le_refl _), ext_virt φ H F nx w, (hR.sub hsub).virt ix _, .inr ⟨rfl, a, rfl, hok⟩⟩
            · rcases hadr with h0 | ⟨ad, rfl, hsp, hrg, _⟩
              · omega
              · have := app_new (P := P) (ty := ty) (n := 0) (cap := 0) (c := c2) hT hR hi he rfl hzs hby a (olds := []) (ous := []) rfl (fun _ h => by cases h) rfl (fun _ => ⟨rfl, rfl⟩) (fun a' ha => ?_) hxr hxo hxn hm hst hsp hrg ?_ (by omega) hsub ix
                · simpa using this
                · obtain ⟨g1, g2, N, M, g3, g4⟩ := hok a' ha
                  refine ⟨fun j v hj => by simp [fl] at hj, ?_, ?_⟩
                  · simp only [Nat.zero_mul]
                    simp [Room.holdsV, g3, g1]
                    exact g4
                  · obtain ⟨bk, of, sp⟩ := a'
                    obtain rfl : sp = none := g1
                    simp only [Nat.zero_div, Nat.zero_mul]
                    rw [addr_add]
                    exact g2 _
                · rw [Nat.zero_add]
                  exact hlimb m hlim
          split at h
          · -- a row of one's own
            rename_i ix bs st' a n
            cases h5 : eqb st st' <;> simp only [h5, cond_false, cond_true, reduceCtorEq] at h
            obtain rfl := eqb_eq h5
            cases h6 : sameIx x ix <;> simp only [h6, cond_false, cond_true, reduceCtorEq] at h
            cases hf : find ob ix with
            | none => simp [hf] at h
            | some en =>
              obtain ⟨ix', bs', o'⟩ := en
              obtain rfl : ix' = ix := (find_mem hf).2
              cases o' with
              | box => simp [hf] at h
              | row e' st2 c =>
                simp only [hf] at h
                cases h7 : eqb e e' <;> simp only [h7, cond_false, cond_true, reduceCtorEq] at h
                obtain rfl := eqb_eq h7
                cases h8 : eqb st st2 <;> simp only [h8, cond_false, cond_true, reduceCtorEq] at h
                obtain rfl := eqb_eq h8
                cases hl : seqList real c with
                | none => simp [hl] at h
                | some els =>
                  simp [hl] at h
                  obtain ⟨rfl, rfl, rfl⟩ := h
                  have hgrow : n + m ≤ 140737488355328 / by_ := by simpa [real] using hc (real.nle (real.nadd n m) (140737488355328 / by_)) (by simp)
                  have hbs : bs = bs' := eqb_eq (hc (real.neq bs bs') (by simp))
                  have han : a + n = els.length := eqb_eq (hc (real.neq (real.nadd a n) (real.len els)) (by simp))
                  have hcs : ∀ c ∈ cs', c = true := fun c hm => hc c (by simp [hm])
                  subst hbs
                  show AppGoal P φ H F nx w t ty ub ux (.own ix' nx st 0 (n + m)) (⟨ix', nx, .row e st (.list st true true (els.drop a ++ xs))⟩ :: delOb ob ix')
                  rcases hb with ⟨b', o, cap, N, M, hp, rfl, hcap, hsh, hM, hfz⟩ | ⟨rfl, ad, rfl, had⟩
                  · obtain ⟨hH, hF, els', pre, us0, rest, g0, g1, rfl, g3, g4⟩ := hR.obs _ (find_mem hf).1 b' o hp
                    rw [hl] at g0
                    cases g0
                    have hlen := vrs_len g3
                    obtain ⟨a2, c2, us, hux, hxr, hxo, hxn, hlim, hadr⟩ := (srcE_ok hR hst hx hsrc hcs).out
                    subst hux
                    have hM' : M = (pre ++ (fl us0 ++ rest)).length := by
                      rw [World.shape?, g1] at hsh
                      injection hsh with hsh
                      injection hsh with _ hsh
                      simpa using hsh.symm
                    have hfl0 : (fl us0).length = (a + n) * st := by rw [fl_len g4, ← hlen, ← han]
                    have hfa : (fl (us0.take a)).length = a * st := by rw [fl_len (ones_take g4 a), List.length_take, Nat.min_eq_left (by omega)]
                    have hsplit : fl us0 = fl (us0.take a) ++ fl (us0.drop a) := by rw [← fl_append, List.take_append_drop]
                    have hln : (fl us).length = m * st := by rw [fl_len hxo, hxn]
                    by_cases hroom : n + m ≤ cap
                    · have hadd : (a + cap) * st = a * st + cap * st := Nat.add_mul ..
                      have hadd2 : (a + n) * st = a * st + n * st := Nat.add_mul ..
                      have hadd3 : (n + m) * st ≤ cap * st := Nat.mul_le_mul_right _ hroom
                      rw [Nat.add_mul] at hadd3
                      simp only [List.length_append] at hM'
                      have hrl : m * st ≤ rest.length := by omega
                      -- the row behind it
                      have hcur : (pre ++ (fl us0 ++ rest)).take (pre.length + (fl us0).length) ++ fl us ++ (pre ++ (fl us0 ++ rest)).drop (pre.length + (fl us0).length + (fl us).length) = (pre ++ fl (us0.take a)) ++ (fl (us0.drop a ++ us) ++ rest.drop (fl us).length) := by
                        have e1 := over_len (pre := pre) (us := fl us0 ++ rest) (rest := []) (ys := fl us) (k := (fl us0).length) (by simp; omega)
                        simp only [List.append_nil] at e1
                        rw [e1, List.take_left, List.drop_append, List.drop_of_length_le (by omega), List.nil_append, fl_append, hsplit]
                        simp
                      have hss : ((pre ++ fl (us0.take a)) ++ (fl (us0.drop a ++ us) ++ rest.drop (fl us).length)).toArray.size = ((pre ++ (fl us0 ++ rest)).toArray).size := by
                        have := congrArg List.length hcur
                        simp only [List.size_toArray]
                        rw [← this]
                        simp only [List.length_append, List.length_take, List.length_drop]
                        omega
                      have hres := hR.renew hf hp (k := pre.length + a * st) g1 hss (o' := .row e st (.list st true true (els.drop a ++ xs))) (fun φ' hu => by
                        refine ⟨els.drop a ++ xs, pre ++ fl (us0.take a), us0.drop a ++ us, rest.drop (fl us).length, rfl, setRow_heap w b' _ _ e _ g1, by simp [hfa], vrs_append (hu.vrs _ _ (vrs_drop g3 a)) (hu.vrs _ _ hxr), ones_append (ones_drop g4 a) hxo⟩)
                      have hval : VR (upd φ ix' nx (b', pre.length + a * st)) H (w.setRow b' ((pre ++ fl (us0.take a)) ++ (fl (us0.drop a ++ us) ++ rest.drop (fl us).length)).toArray) (.own ix' nx st 0 (n + m)) (.slice (some ⟨b', pre.length + a * st, none⟩) (n + m) cap) := by
                        refine .inl ⟨b', pre.length + a * st, cap, e, ((pre ++ fl (us0.take a)) ++ (fl (us0.drop a ++ us) ++ rest.drop (fl us).length)).toArray.size, upd_self _ _ _ _, by simp, hroom, ?_, ?_, fun k => ?_⟩
                        · simp [World.shape?, setRow_heap w b' _ _ e _ g1]
                        · rw [hss]
                          simp only [List.size_toArray, List.length_append, Nat.zero_add]
                          omega
                        · simp [World.frozen?, setRow_heap w b' _ _ e _ g1]
                      rcases hadr with h0 | ⟨ad, rfl, hsp, hrg, _⟩
                      · subst h0
                        have hus : us = [] := by simpa using hxn
                        subst hus
                        have hself : w.setRow b' ((pre ++ fl (us0.take a)) ++ (fl (us0.drop a ++ []) ++ rest.drop (fl []).length)).toArray = w := by
                          have : (pre ++ fl (us0.take a)) ++ (fl (us0.drop a ++ []) ++ rest.drop (fl []).length) = pre ++ (fl us0 ++ rest) := by
                            rw [hsplit]; simp [fl]
                          rw [this]
                          exact setRow_self w b' _ e _ g1
                        rw [hself] at hres hval
                        exact ⟨_, _, _, run_append_zero hT hi he _ a2 n cap c2 hcap, hres.2, hres.1, hval⟩
                      · have hnews : ∀ j u, (fl us)[j]? = some u → w.cell? (ad.add j) = some u := fun j u hj => by
                          obtain ⟨bk, of, sp⟩ := ad
                          obtain rfl : sp = none := hsp
                          rw [addr_add]; exact hrg j u hj
                        have hrun := run_append_at (P := P) (ty := ty) hT hi he g1 (o := pre.length + a * st) (n := n) (cap := cap) (c := c2) hln hnews (fl_one hxo) hroom (by
                          simp only [List.size_toArray, List.length_append]
                          show pre.length + a * st + n * st + (fl us).length ≤ _
                          omega)
                        have e2 : pre.length + a * st + n * st = pre.length + (fl us0).length := by omega
                        have e3 : (⟨TypeDesc.invalid, st, by_, some z, q'⟩ : TI).size = st := rfl
                        refine ⟨_, _, _, ?_, hres.2, hres.1, hval⟩
                        rw [← hcur, ← e2]
                        exact hrun
                    · -- a new row
                      rcases hadr with h0 | ⟨ad, rfl, hsp, hrg, hwhere⟩
                      · omega
                      · have hm : 0 < m := by omega
                        refine app_new (P := P) (ty := ty) (c := c2) hT hR hi he rfl hzs hby (some ⟨b', pre.length + a * st, none⟩) (vrs_drop g3 a) (ones_drop g4 a) (by simp; omega) (by simp) (fun a' ha => ?_) hxr hxo hxn hm hst hsp hrg (hlimb _ hgrow) (by omega) (del_sub ob ix') ix'
                        · cases ha
                          refine ⟨fun j v hj => ?_, ?_, ?_⟩
                          · have hr0 := range_drop (range_mid g1) (a * st)
                            rw [fl_drop g4] at hj
                            rw [addr_add]
                            exact hr0 j v hj
                          · show Room.holdsV w ⟨b', pre.length + a * st, none⟩ (n * st) = true
                            have hadd2 : (a + n) * st = a * st + n * st := Nat.add_mul ..
                            simp only [List.length_append] at hM'
                            simp [Room.holdsV, hsh]
                            omega
                          · rw [addr_add]; exact hfz _
                  · have ha0 : els.drop a = [] := List.drop_of_length_le (by omega)
                    rw [ha0, List.nil_append, Nat.zero_add]
                    exact onto ad ix' (delOb ob ix') (del_sub ob ix') rfl had hcs
          · -- nil
            simp at h
            obtain ⟨rfl, rfl, rfl⟩ := h
            have hb : ub = .slice none 0 0 := hb
            exact onto none ixn ob (List.Sublist.refl _) hb (by simp) hc
          · rename_i st' l
            cases h5 : eqb st st' <;> simp only [h5, cond_false, cond_true, reduceCtorEq] at h
            obtain rfl := eqb_eq h5
            simp at h
            obtain ⟨rfl, rfl, rfl⟩ := h
            have hl0 : l.length = 0 := eqb_eq (hc _ List.mem_cons_self)
            obtain ⟨us, hr, a, n, cap, rfl, hn, _, hfu, _, _, hg⟩ := hb
            have hn0 : n = 0 := by have := vrs_len hr; omega
            have hc0 : cap = 0 := by rw [hfu rfl, hn0]
            subst hn0 hc0
            exact onto a ixn ob (List.Sublist.refl _) rfl (fun ad e => by simpa using hg rfl ad e) (fun c hm => hc c (by simp [hm]))
          · rename_i st' α enc d l
            cases h5 : eqb st st' <;> simp only [h5, cond_false, cond_true, reduceCtorEq] at h
            obtain rfl := eqb_eq h5
            simp at h
            obtain ⟨rfl, rfl, rfl⟩ := h
            have hl0 : l.length = 0 := eqb_eq (hc _ List.mem_cons_self)
            obtain ⟨us, hlu, _, a, n, cap, rfl, hn, _, hfu, _, _, hg⟩ := hb
            have hn0 : n = 0 := by omega
            have hc0 : cap = 0 := by rw [hfu rfl, hn0]
            subst hn0 hc0
            exact onto a ixn ob (List.Sublist.refl _) rfl (fun ad e => by simpa using hg rfl ad e) (fun c hm => hc c (by simp [hm]))
          · simp at h
      · simp at h
    · simp at h
  · simp at h
end
end Go.Proofs.Ytckkcgkgfkgfdaa.AM
