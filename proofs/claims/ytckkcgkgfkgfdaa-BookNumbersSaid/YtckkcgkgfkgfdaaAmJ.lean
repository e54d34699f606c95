/- What writes an object, and what appends: over an abstract memory, and in a world. Plain laws; no condition. -/
import Derived.Test.YtckkcgkgfkgfdaaAmI
namespace Go.Proofs.Ytckkcgkgfkgfdaa.AM
universe u
section
variable (O : Num) (T : Tab)
def astore (t : TypeId) (p v : AV) (ob : List Ent) : Option (List Bool × List Ent) :=
  match tget T t with
  | none => none
  | some i => bif notTup v then bif eqb (llen (flat v)) i.size then match p with
    | .ptr ix bs off => match find ob ix with
      | some ⟨_, bs', .box e cells⟩ => match lput cells off (flat v) with
        | some cs' => some ([O.neq bs bs'], setOb ob ix (.box e cs'))
        | none => none
      | _ => none
    | .rptr ix bs st j off => match find ob ix with
      | some ⟨_, bs', .row e st' c⟩ => bif okst st st' then match seqLen O c, seqGet O c j, seqList O c with
        | some n, some el, some els =>
          bif (bif eqb off 0 then eqb i.size st else false) then some ([O.neq bs bs', O.nlt j n], setOb ob ix (.row e st (.list st true true (O.upd els j v))))
          else match el with
            | .agg cs => match lput cs off (flat v) with
              | some y => some ([O.neq bs bs', O.nlt j n], setOb ob ix (.row e st (.list st true true (O.upd els j (.agg y)))))
              | none => none
            | _ => none
        | _, _, _ => none else none
      | _ => none
    | _ => none
    else none else none
/-- What is appended: tests, elements, how many. -/
def srcE (st lim : Nat) (x : AV) (ob : List Ent) : Option (List Bool × List AV × Nat) :=
  match x with
  | .own ix bs st2 i n => match find ob ix with
    | some ⟨_, bs', .row _ st' c⟩ => bif eqb st st2 then bif eqb st st' then match seqList O c with
      | some l => some ([O.neq bs bs', O.nle (O.nadd i n) (O.len l), O.nle n lim], O.tak n (O.drp i l), n)
      | none => none else none else none
    | _ => none
  | .list st2 _ _ l => bif eqb st st2 then some ([O.nle (O.len l) lim], l, O.len l) else none
  | .mlist st2 _ _ α enc _ l => bif eqb st st2 then some ([O.nle (O.mlen α l) lim], O.emap α enc l, O.mlen α l) else none
  | .val (.slice none 0 0) => some ([], [], 0)
  | _ => none
def sameIx : AV → Nat → Bool
  | .own ix _ _ _ _, j => eqb ix j
  | _, _ => false
def aapp (ts : List TypeId) (base x : AV) (ob : List Ent) (ixn nx : Nat) : Option (List Bool × AV × List Ent) :=
  match ts with
  | [t, t'] => bif eqb t t' then match tget T t with
    | some ⟨.slice e, _, _, _, _⟩ => match tget T e with
      | some ⟨_, st, by_, some z, _⟩ => bif okst st st then bif okst by_ by_ then bif eqb (llen (flat (ofV z))) st then match srcE O st (140737488355328 / by_) x ob with
        | none => none
        | some (cs, xs, m) => match base with
          | .own ix bs st' a n => bif eqb st st' then bif sameIx x ix then none else match find ob ix with
            | some ⟨_, bs', .row e' st2 c⟩ => bif eqb e e' then bif eqb st st2 then match seqList O c with
              | some els => some (O.nle (O.nadd n m) (140737488355328 / by_) :: O.neq bs bs' :: O.neq (O.nadd a n) (O.len els) :: cs, .own ix nx st 0 (O.nadd n m), ⟨ix, nx, .row e st (.list st true true (O.app (O.drp a els) xs))⟩ :: delOb ob ix)
              | none => none else none else none
            | _ => none else none
          | .val (.slice none 0 0) => some (cs, .own ixn nx st 0 m, ⟨ixn, nx, .row e st (.list st true true xs)⟩ :: ob)
          | .list st' true true l => bif eqb st st' then some (O.neq (O.len l) 0 :: cs, .own ixn nx st 0 m, ⟨ixn, nx, .row e st (.list st true true xs)⟩ :: ob) else none
          | .mlist st' true true α _ _ l => bif eqb st st' then some (O.neq (O.mlen α l) 0 :: cs, .own ixn nx st 0 m, ⟨ixn, nx, .row e st (.list st true true xs)⟩ :: ob) else none
          | _ => none
        else none else none else none
      | _ => none
    | _ => none else none
  | _ => none
end
theorem find_split : ∀ {ob : List Ent} {ix : Nat} {e : Ent}, find ob ix = some e → ∃ l r, ob = l ++ e :: r ∧ (∀ o, setOb ob ix o = l ++ ⟨e.ix, e.bs, o⟩ :: r) ∧ delOb ob ix = l ++ r
  | [], _, _, h => by simp [find] at h
  | x :: q, ix, e, h => by
    rw [find] at h
    cases hb : eqb x.ix ix with
    | true =>
      rw [hb] at h
      simp at h
      subst h
      exact ⟨[], q, rfl, fun o => by simp [setOb, hb], by simp [delOb, hb]⟩
    | false =>
      rw [hb] at h
      obtain ⟨l, r, h1, h2, h3⟩ := find_split (by simpa using h)
      exact ⟨x :: l, r, by simp [h1], fun o => by simp [setOb, hb, h2], by simp [delOb, hb, h3]⟩
section
variable {φ : Phi} {H : Nat → Prop} {F : Fr} {w : World} {ob : List Ent} {nx : Nat} {P : Program} {T : Tab}
/-- A row written in its place. -/
theorem Rel.ext_set (_hR : Rel φ H F ob nx w) {b : Nat} {cur cur' : Array Value} {e : TypeId} (hb : w.heap[b]? = some (.cells cur e (0, 0))) (hs : cur'.size = cur.size) (hH : ¬ H b) (hF : ¬ F b) :
    Ext φ H F nx w φ H nx (w.setRow b cur') := by
  have hne : ∀ k, k ≠ b → (w.setRow b cur').heap[k]? = w.heap[k]? := fun k hk => setRow_other w b k cur' hk
  refine ⟨⟨fun _ _ _ h => h, fun _ h => h, fun k hk => hne k (fun e => hH (e ▸ hk)), fun k T n h => ?_, fun k T n h hf o => ?_⟩, Nat.le_refl _, fun _ _ _ => rfl, fun k hk => hne k (fun e => hF (e ▸ hk)), by simp, rfl, rfl, rfl⟩
  · by_cases hk : k = b
    · subst hk
      rw [World.shape?, hb] at h
      rw [World.shape?, setRow_heap w k cur cur' e _ hb]
      show some (e, cur'.size) = _
      rw [hs]
      exact h
    · rw [World.shape?, hne k hk]; exact h
  · by_cases hk : k = b
    · subst hk
      simp [World.frozen?, setRow_heap w k cur cur' e _ hb]
    · rw [World.frozen?_of_block (w := w) (a := ⟨k, o, none⟩) (hne k hk)]; exact hf o
theorem Rel.perm_set (hR : Rel φ H F ob nx w) {ix : Nat} {en : Ent} (hf : find ob ix = some en) {b o : Nat} (hp : φ en.ix en.bs = some (b, o)) {cur cur' : Array Value} {e : TypeId} (hb : w.heap[b]? = some (.cells cur e (0, 0))) (hs : cur'.size = cur.size)
    {o' : Ob} (ho : ObR φ H (w.setRow b cur') o' b o) : Rel φ H F (setOb ob ix o') nx (w.setRow b cur') := by
  obtain ⟨hH, hF, _⟩ := hR.obs en (find_mem hf).1 b o hp
  have hx := hR.ext_set hb hs hH hF
  obtain ⟨l, r, h1, h2, _⟩ := find_split hf
  rw [h2]
  have hinj := hR.inj
  rw [h1] at hinj
  have hp1 := List.pairwise_append.1 hinj
  have hp2 := List.pairwise_cons.1 hp1.2.1
  have other : ∀ x, x ∈ l ∨ x ∈ r → ∀ b' y, φ x.ix x.bs = some (b', y) → b' ≠ b := fun x hx b' y h => by
    rcases hx with hx | hx
    · exact hp1.2.2 x hx en List.mem_cons_self b' y b o h hp
    · exact fun e => hp2.1 x hx b o b' y hp h e.symm
  have hm : ∀ x, x ∈ l ∨ x ∈ r → x ∈ ob := fun x hx => by rw [h1]; rcases hx with h | h <;> simp [h]
  refine ⟨fun i k x y h => by rw [setRow_size]; exact hR.lt i k x y h, fun k hk => by rw [setRow_size]; exact hR.hlt k hk, fun k hk => by rw [setRow_size]; exact hR.flt k hk, hR.hf, fun x hxm b' y h => ?_, fun x hxm => ?_, ?_, ?_, ⟨hR.fnm.1, fun x hxm h => by
    rcases List.mem_append.1 hxm with hx | hx
    · exact hR.fnm.2 x (hm x (.inl hx)) h
    · rcases List.mem_cons.1 hx with rfl | hx
      · exact hR.fnm.2 en (find_mem hf).1 h
      · exact hR.fnm.2 x (hm x (.inr hx)) h⟩⟩
  · rcases List.mem_append.1 hxm with hxl | hxr
    · obtain ⟨q1, q2, q3⟩ := hR.obs x (hm x (.inl hxl)) b' y h
      exact ⟨q1, q2, q3.up hx.up (setRow_other w b b' cur' (other x (.inl hxl) b' y h))⟩
    · rcases List.mem_cons.1 hxr with rfl | hxr
      · have h : φ en.ix en.bs = some (b', y) := h
        rw [hp] at h
        cases h
        exact ⟨hH, hF, ho⟩
      · obtain ⟨q1, q2, q3⟩ := hR.obs x (hm x (.inr hxr)) b' y h
        exact ⟨q1, q2, q3.up hx.up (setRow_other w b b' cur' (other x (.inr hxr) b' y h))⟩
  · rcases List.mem_append.1 hxm with hxl | hxr
    · exact hR.nb x (hm x (.inl hxl))
    · rcases List.mem_cons.1 hxr with rfl | hxr
      · exact hR.nb en (find_mem hf).1
      · exact hR.nb x (hm x (.inr hxr))
  · have hnd := hR.nd
    rw [h1] at hnd
    have hn1 := List.pairwise_append.1 hnd
    have hn2 := List.pairwise_cons.1 hn1.2.1
    refine List.pairwise_append.2 ⟨hn1.1, List.Pairwise.cons (fun x hx => hn2.1 x hx) hn2.2, fun x hx y hy => ?_⟩
    rcases List.mem_cons.1 hy with rfl | hy
    · exact hn1.2.2 x hx en List.mem_cons_self
    · exact hn1.2.2 x hx y (List.mem_cons_of_mem _ hy)
  · refine List.pairwise_append.2 ⟨hp1.1, List.Pairwise.cons (fun x hx => hp2.1 x hx) hp2.2, fun x hx y hy => ?_⟩
    rcases List.mem_cons.1 hy with rfl | hy
    · exact hp1.2.2 x hx en List.mem_cons_self
    · exact hp1.2.2 x hx y (List.mem_cons_of_mem _ hy)
theorem over_len {α : Type u} {pre us rest ys : List α} {k : Nat} (h : k + ys.length ≤ us.length) :
    (pre ++ (us ++ rest)).take (pre.length + k) ++ ys ++ (pre ++ (us ++ rest)).drop (pre.length + k + ys.length) = pre ++ ((us.take k ++ ys ++ us.drop (k + ys.length)) ++ rest) := by
  rw [List.take_append, List.take_of_length_le (by omega), show pre.length + k - pre.length = k by omega, List.take_append_of_le_length (by omega)]
  rw [List.drop_append, List.drop_of_length_le (by omega), List.nil_append, show pre.length + k + ys.length - pre.length = k + ys.length by omega, List.drop_append_of_le_length h]
  simp
/-- A store of cells within known ones. -/
theorem run_store_in (hT : TabOk P T) {t : TypeId} {i : TI} (hi : tget T t = some i) {b : Nat} {pre us rest : List Value} {e : TypeId} (hb : w.heap[b]? = some (.cells (pre ++ (us ++ rest)).toArray e (0, 0))) {k : Nat} {u : Value}
    (hs : u.cells.size = i.size) (hone : ∀ c ∈ u.cells.toList, c.oneCell' = true) (hk : k + u.cells.size ≤ us.length) :
    (Instr.storeAt t (.pointer (some ⟨b, pre.length + k, none⟩)) u).run P w = .ok () (w.setRow b (pre ++ ((us.take k ++ u.cells.toList ++ us.drop (k + u.cells.size)) ++ rest)).toArray) := by
  have hst := run_storeCells_at P b (pre.length + k) e u.cells.toList 0 _ w hb (by simp; omega) hone
  simp only [Nat.add_zero] at hst
  have e1 := over_len (pre := pre) (us := us) (rest := rest) (ys := u.cells.toList) (k := k) (by simpa using hk)
  rw [e1] at hst
  simp only [Array.length_toList] at hst
  simp [Instr.storeAt, Instr.sureAddr, storeVar, hT.size hi, hs, hst]
theorem astore_ok (hT : TabOk P T) (hR : Rel φ H F ob nx w) {t : TypeId} {p v : AV} {q u : Value} (hq : VR φ H w p q) (hu : VR φ H w v u) {cs : List Bool} {ob' : List Ent} (h : astore real T t p v ob = some (cs, ob')) (hc : ∀ c ∈ cs, c = true) :
    ∃ w', (Instr.storeAt t q u).run P w = .ok () w' ∧ Ext φ H F nx w φ H nx w' ∧ Rel φ H F ob' nx w' := by
  unfold astore at h
  cases hi : tget T t with
  | none => simp [hi] at h
  | some i =>
    simp only [hi] at h
    cases hn : notTup v <;> simp only [hn, cond_false, cond_true, reduceCtorEq] at h
    cases hz : eqb (llen (flat v)) i.size <;> simp only [hz, cond_false, cond_true, reduceCtorEq] at h
    have hfl := vr_flat hu
    have hone := one_cells hn hu
    have hsz : u.cells.size = i.size := by
      have := eqb_eq hz
      rw [llen_eq, vrs_len hfl] at this
      simpa using this
    cases p <;> try (simp at h; done)
    case ptr ix bs off =>
      simp only at h
      cases hf : find ob ix with
      | none => simp [hf] at h
      | some en =>
        obtain ⟨ix', bs', o'⟩ := en
        obtain rfl : ix' = ix := (find_mem hf).2
        cases o' with
        | row => simp [hf] at h
        | box e cells =>
          simp only [hf] at h
          cases hl : lput cells off (flat v) with
          | none => simp [hl] at h
          | some cs' =>
            simp [hl] at h
            obtain ⟨rfl, rfl⟩ := h
            obtain ⟨b, o, hp, rfl⟩ := hq
            have hb : bs = bs' := eqb_eq (hc _ List.mem_cons_self)
            subst hb
            obtain ⟨hH, hF, pre, us, rest, h1, rfl, h3, h4⟩ := hR.obs _ (find_mem hf).1 b o hp
            obtain ⟨hr2, hle⟩ := vrs_lput hl h3 hfl
            have hle' : off + u.cells.size ≤ us.length := by simpa using hle
            have hlen : (us.take off ++ u.cells.toList ++ us.drop (off + u.cells.size)).length = us.length := by simp; omega
            have hss : ((pre ++ ((us.take off ++ u.cells.toList ++ us.drop (off + u.cells.size)) ++ rest)).toArray).size = ((pre ++ (us ++ rest)).toArray).size := by
              simp only [List.size_toArray, List.length_append] at hlen ⊢; omega
            have hx := hR.ext_set h1 hss hH hF
            refine ⟨_, run_store_in hT hi h1 hsz hone hle', hx, hR.perm_set hf hp h1 hss ?_⟩
            refine ⟨pre, _, rest, setRow_heap w b _ _ e _ h1, rfl, hx.up.vrs _ _ (by simpa using hr2), fun c hcm => ?_⟩
            rcases List.mem_append.1 hcm with hcm | hcm
            · rcases List.mem_append.1 hcm with hcm | hcm
              · exact h4 c (List.mem_of_mem_take hcm)
              · exact hone c hcm
            · exact h4 c (List.mem_of_mem_drop hcm)
    case rptr ix bs st j off =>
      simp only at h
      cases hf : find ob ix with
      | none => simp [hf] at h
      | some en =>
        obtain ⟨ix', bs', o'⟩ := en
        obtain rfl : ix' = ix := (find_mem hf).2
        cases o' with
        | box => simp [hf] at h
        | row e st' c =>
          simp only [hf] at h
          cases hst : okst st st' <;> simp only [hst, cond_false, cond_true, reduceCtorEq] at h
          obtain ⟨rfl, hpos⟩ := okst_of hst
          cases hsl : seqLen real c with
          | none => simp [hsl] at h
          | some n =>
            cases hsg : seqGet real c j with
            | none => simp [hsl, hsg] at h
            | some el =>
              cases hsq : seqList real c with
              | none => simp [hsl, hsg, hsq] at h
              | some els =>
                simp only [hsl, hsg, hsq] at h
                -- what both ways share
                have key : ∀ (el' : AV) (y : Value), cs = [real.neq bs bs', real.nlt j n] → ob' = setOb ob ix' (.row e st (.list st true true (real.upd els j el'))) → off + u.cells.size ≤ st →
                    (∀ x, VR φ H w el x → x.cells.size = st → (∀ c ∈ x.cells.toList, c.oneCell' = true) → ∃ y, VR φ H w el' y ∧ y.cells.toList = x.cells.toList.take off ++ u.cells.toList ++ x.cells.toList.drop (off + u.cells.size)) →
                    ∃ w', (Instr.storeAt t q u).run P w = .ok () w' ∧ Ext φ H F nx w φ H nx w' ∧ Rel φ H F ob' nx w' := by
                  rintro el' _ rfl rfl hle hel
                  obtain ⟨b, o, hp, rfl⟩ := hq
                  have hb : bs = bs' := eqb_eq (hc _ List.mem_cons_self)
                  have hj : j < n := Nat.le_of_ble_eq_true (hc (real.nlt j n) (by simp))
                  subst hb
                  obtain ⟨hH, hF, els', pre, us, rest, h0, h1, rfl, h3, h4⟩ := hR.obs _ (find_mem hf).1 b o hp
                  rw [hsq] at h0
                  cases h0
                  obtain ⟨rfl, hget⟩ := seq_get hsq hsg hsl
                  have hget := hget hj
                  have hlen := vrs_len h3
                  obtain ⟨x, hx, hvr⟩ := (vrs_get h3).2 j hj
                  have e1 : els[j] = el := (List.getElem?_eq_some_iff.1 hget).2
                  rw [e1] at hvr
                  have hxm := List.mem_of_getElem? hx
                  obtain ⟨y, hy, hyc⟩ := hel x hvr (h4 x hxm).1 (h4 x hxm).2
                  have hju : j < us.length := by omega
                  have hxe : us[j] = x := (List.getElem?_eq_some_iff.1 hx).2
                  have husplit : us = us.take j ++ x :: us.drop (j + 1) := by rw [← hxe]; simp
                  have hset : us.set j y = us.take j ++ y :: us.drop (j + 1) := by rw [List.set_eq_take_append_cons_drop, if_pos hju]
                  have hfl1 : fl us = fl (us.take j) ++ (x.cells.toList ++ fl (us.drop (j + 1))) := by
                    conv => lhs; rw [husplit]
                    simp [fl]
                  have hl1 : (fl (us.take j)).length = j * st := by rw [fl_len (ones_take h4 j)]; simp [Nat.min_eq_left (Nat.le_of_lt hju)]
                  have hxs : x.cells.toList.length = st := by simpa using (h4 x hxm).1
                  have hfl2 : fl (us.set j y) = (fl us).take (j * st + off) ++ u.cells.toList ++ (fl us).drop (j * st + off + u.cells.size) := by
                    rw [hset, hfl1]
                    have e3 : fl (us.take j ++ y :: us.drop (j + 1)) = fl (us.take j) ++ (y.cells.toList ++ fl (us.drop (j + 1))) := by simp [fl]
                    have e4 := over_len (pre := fl (us.take j)) (us := x.cells.toList) (rest := fl (us.drop (j + 1))) (ys := u.cells.toList) (k := off) (by simp only [Array.length_toList] at hxs ⊢; omega)
                    simp only [Array.length_toList] at e4
                    rw [e3, hyc, ← hl1, e4]
                  have hkl : j * st + off + u.cells.size ≤ (fl us).length := by
                    rw [fl_len h4]
                    have : (j + 1) * st ≤ us.length * st := Nat.mul_le_mul_right _ hju
                    rw [Nat.succ_mul] at this
                    omega
                  have hlen2 : (fl (us.set j y)).length = (fl us).length := by rw [hfl2]; simp; omega
                  have hss : ((pre ++ (fl (us.set j y) ++ rest)).toArray).size = ((pre ++ (fl us ++ rest)).toArray).size := by
                    simp only [List.size_toArray, List.length_append, hlen2]
                  have hxt := hR.ext_set h1 hss hH hF
                  have hrun := run_store_in (P := P) hT hi h1 hsz hone hkl
                  rw [← hfl2] at hrun
                  refine ⟨_, by rw [show pre.length + j * st + off = pre.length + (j * st + off) by omega]; exact hrun, hxt, hR.perm_set hf hp h1 hss ?_⟩
                  have hys : y.cells.size = st := by
                    have := congrArg List.length hyc
                    simp at this
                    have h9 : x.cells.size = st := (h4 x hxm).1
                    omega
                  refine ⟨els.set j el', pre, us.set j y, rest, rfl, setRow_heap w b _ _ e _ h1, rfl, hxt.up.vrs _ _ (vrs_of (by simpa using hlen) fun k hk => ?_), fun z hz => ?_⟩
                  · by_cases hkj : j = k
                    · subst hkj
                      exact ⟨y, by simp [hju], by simpa using hy⟩
                    · obtain ⟨z, hz, hvz⟩ := (vrs_get h3).2 k (by simpa using hk)
                      exact ⟨z, by rw [List.getElem?_set_ne hkj]; exact hz, by rw [List.getElem_set_ne hkj]; exact hvz⟩
                  · rcases List.mem_or_eq_of_mem_set hz with hz | rfl
                    · exact h4 z hz
                    · refine ⟨hys, fun c hcm => ?_⟩
                      rw [hyc] at hcm
                      rcases List.mem_append.1 hcm with hcm | hcm
                      · rcases List.mem_append.1 hcm with hcm | hcm
                        · exact (h4 x hxm).2 c (List.mem_of_mem_take hcm)
                        · exact hone c hcm
                      · exact (h4 x hxm).2 c (List.mem_of_mem_drop hcm)
                cases hw : (bif eqb off 0 then eqb i.size st else false) with
                | true =>
                  simp [hw] at h
                  have h0 : off = 0 ∧ i.size = st := by
                    cases h0 : eqb off 0 with
                    | false => simp [h0] at hw
                    | true => rw [h0, cond_true] at hw; exact ⟨eqb_eq h0, eqb_eq hw⟩
                  obtain ⟨rfl, hss⟩ := h0
                  refine key v u h.1.symm h.2.symm (by omega) fun x hx hxs _ => ⟨u, hu, ?_⟩
                  have : x.cells.toList.drop (0 + u.cells.size) = [] := List.drop_of_length_le (by simp; omega)
                  simp only [List.take_zero, List.nil_append, this, List.append_nil]
                | false =>
                  simp only [hw, cond_false] at h
                  cases el <;> try (simp at h; done)
                  case agg xs =>
                    simp only at h
                    cases hl : lput xs off (flat v) with
                    | none => simp [hl] at h
                    | some y =>
                      simp [hl] at h
                      have hle0 := (lput_some hl).2
                      rw [vrs_len hfl] at hle0
                      by_cases hxl : xs.length = st
                      · refine key (.agg y) u h.1.symm h.2.symm (by simp at hle0; omega) fun x hx hxs hx1 => ?_
                        obtain ⟨us, rfl, g1, g2⟩ := hx
                        obtain ⟨hr2, hle⟩ := vrs_lput hl g2 hfl
                        refine ⟨.agg (us.take off ++ u.cells.toList ++ us.drop (off + u.cells.size)).toArray, ⟨_, rfl, fun c hcm => ?_, by simpa using hr2⟩, by simp [Value.cells]⟩
                        rcases List.mem_append.1 hcm with hcm | hcm
                        · rcases List.mem_append.1 hcm with hcm | hcm
                          · exact g1 c (List.mem_of_mem_take hcm)
                          · exact hone c hcm
                        · exact g1 c (List.mem_of_mem_drop hcm)
                      · -- no element of that size
                        exfalso
                        obtain ⟨b, o, hp, rfl⟩ := hq
                        have hcs := h.1.symm
                        subst hcs
                        have hb : bs = bs' := eqb_eq (hc _ List.mem_cons_self)
                        have hj : j < n := Nat.le_of_ble_eq_true (hc (real.nlt j n) (by simp))
                        subst hb
                        obtain ⟨hH, hF, els', pre, us, rest, h0, h1, rfl, h3, h4⟩ := hR.obs _ (find_mem hf).1 b o hp
                        rw [hsq] at h0
                        cases h0
                        obtain ⟨rfl, hget⟩ := seq_get hsq hsg hsl
                        have hget := hget hj
                        obtain ⟨x, hx, hvr⟩ := (vrs_get h3).2 j hj
                        have e1 : els[j] = .agg xs := (List.getElem?_eq_some_iff.1 hget).2
                        rw [e1] at hvr
                        obtain ⟨us', rfl, _, g2⟩ := hvr
                        have := (h4 _ (List.mem_of_getElem? hx)).1
                        have g3 := vrs_len g2
                        simp [Value.cells] at this
                        omega
end
end Go.Proofs.Ytckkcgkgfkgfdaa.AM
