/- What the operations over an abstract memory mean in a world. Plain laws; no condition. -/
import Derived.Test.YtckkcgkgfkgfdaaAmB
namespace Go.Proofs.Ytckkcgkgfkgfdaa.AM
universe u
section
variable {φ : Phi} {H : Nat → Prop} {w : World}
theorem vrs_get : ∀ {vs : List AV} {us : List Value}, VRs φ H w vs us → vs.length = us.length ∧ ∀ i (h : i < vs.length), ∃ u, us[i]? = some u ∧ VR φ H w vs[i] u
  | [], us, h => by
    have : us = [] := h
    subst this
    exact ⟨rfl, fun i h => by simp at h⟩
  | v :: vs, us, h => by
    obtain ⟨u, us', rfl, h1, h2⟩ := h
    obtain ⟨h3, h4⟩ := vrs_get h2
    refine ⟨by simp [h3], fun i hi => ?_⟩
    cases i with
    | zero => exact ⟨u, rfl, h1⟩
    | succ i =>
      obtain ⟨x, hx, hr⟩ := h4 i (by simpa using hi)
      exact ⟨x, by simpa using hx, by simpa using hr⟩
theorem vrs_of : ∀ {vs : List AV} {us : List Value}, vs.length = us.length → (∀ i (h : i < vs.length), ∃ u, us[i]? = some u ∧ VR φ H w vs[i] u) → VRs φ H w vs us
  | [], us, h, _ => by
    have : us = [] := by simpa using h.symm
    exact this
  | v :: vs, [], h, _ => by simp at h
  | v :: vs, u :: us, h, k => by
    obtain ⟨x, hx, hr⟩ := k 0 (by simp)
    simp at hx
    subst hx
    refine ⟨u, us, rfl, by simpa using hr, vrs_of (by simpa using h) fun i hi => ?_⟩
    obtain ⟨y, hy, hr⟩ := k (i + 1) (by simpa using hi)
    exact ⟨y, by simpa using hy, by simpa using hr⟩
theorem vrs_len {vs : List AV} {us : List Value} (h : VRs φ H w vs us) : vs.length = us.length := (vrs_get h).1
theorem vrs_append {a b : List AV} {x y : List Value} (h : VRs φ H w a x) (k : VRs φ H w b y) : VRs φ H w (a ++ b) (x ++ y) := by
  have h1 := vrs_get h
  have h2 := vrs_get k
  refine vrs_of (by simp [h1.1, h2.1]) fun i hi => ?_
  by_cases hlt : i < a.length
  · obtain ⟨u, hu, hr⟩ := h1.2 i hlt
    refine ⟨u, by rw [List.getElem?_append_left (by rw [← h1.1]; exact hlt)]; exact hu, by rw [List.getElem_append_left hlt]; exact hr⟩
  · have hb : i - a.length < b.length := by simp at hi; omega
    obtain ⟨u, hu, hr⟩ := h2.2 _ hb
    refine ⟨u, by rw [List.getElem?_append_right (by rw [← h1.1]; omega), ← h1.1]; exact hu, by rw [List.getElem_append_right (by omega)]; exact hr⟩
theorem vrs_take {a : List AV} {x : List Value} (h : VRs φ H w a x) (n : Nat) : VRs φ H w (a.take n) (x.take n) := by
  have h1 := vrs_get h
  refine vrs_of (by simp [h1.1]) fun i hi => ?_
  have hi' : i < n ∧ i < a.length := by rw [List.length_take] at hi; omega
  obtain ⟨u, hu, hr⟩ := h1.2 i hi'.2
  exact ⟨u, by rw [List.getElem?_take_of_lt hi'.1]; exact hu, by simpa using hr⟩
theorem vrs_drop {a : List AV} {x : List Value} (h : VRs φ H w a x) (n : Nat) : VRs φ H w (a.drop n) (x.drop n) := by
  have h1 := vrs_get h
  refine vrs_of (by simp [h1.1]) fun i hi => ?_
  have hi' : n + i < a.length := by simp at hi; omega
  obtain ⟨u, hu, hr⟩ := h1.2 _ hi'
  exact ⟨u, by simpa using hu, by simpa using hr⟩
theorem lget_some {α : Type u} : ∀ {l : List α} {n : Nat} {a : α}, lget l n = some a → l[n]? = some a
  | [], _, _, h => by simp [lget] at h
  | x :: r, 0, a, h => by simpa [lget] using h
  | x :: r, n + 1, a, h => by simpa using lget_some (l := r) (by simpa [lget] using h)
theorem lsub_some {α : Type u} : ∀ {l : List α} {o n : Nat} {x : List α}, lsub l o n = some x → x = (l.drop o).take n ∧ o + n ≤ l.length
  | l, 0, 0, x, h => by
    have : [] = x := by cases l <;> simpa [lsub] using h
    subst this
    simp
  | a :: r, 0, n + 1, x, h => by
    rw [lsub] at h
    cases h2 : lsub r 0 n with
    | none => simp [h2] at h
    | some y =>
      simp [h2] at h
      obtain ⟨h3, h4⟩ := lsub_some h2
      subst h
      simp at h4
      exact ⟨by simp [h3], by simp; omega⟩
  | a :: r, o + 1, n, x, h => by
    have h2 : lsub r o n = some x := by simpa [lsub] using h
    obtain ⟨h3, h4⟩ := lsub_some h2
    exact ⟨by simp [h3], by simp; omega⟩
  | [], 0, n + 1, x, h => by simp [lsub] at h
  | [], o + 1, n, x, h => by simp [lsub] at h
theorem lput_some {α : Type u} : ∀ {l : List α} {o : Nat} {xs y : List α}, lput l o xs = some y → y = l.take o ++ xs ++ l.drop (o + xs.length) ∧ o + xs.length ≤ l.length
  | l, 0, [], y, h => by
    have : l = y := by cases l <;> simpa [lput] using h
    subst this
    simp
  | a :: r, 0, x :: xs, y, h => by
    rw [lput] at h
    cases h2 : lput r 0 xs with
    | none => simp [h2] at h
    | some z =>
      simp [h2] at h
      obtain ⟨h3, h4⟩ := lput_some h2
      subst h
      simp at h3 h4
      exact ⟨by simp [h3], by simp; omega⟩
  | a :: r, o + 1, xs, y, h => by
    rw [lput] at h
    cases h2 : lput r o xs with
    | none => simp [h2] at h
    | some z =>
      simp [h2] at h
      obtain ⟨h3, h4⟩ := lput_some h2
      subst h
      refine ⟨by rw [h3, show o + 1 + xs.length = (o + xs.length) + 1 by omega, List.drop_succ_cons]; simp, by simp; omega⟩
  | [], 0, x :: xs, y, h => by simp [lput] at h
  | [], o + 1, xs, y, h => by simp [lput] at h
theorem llen_eq {α : Type u} : ∀ (l : List α), llen l = l.length
  | [] => rfl
  | _ :: r => by rw [llen, llen_eq r]; rfl
theorem vr_ofVal (v : Value) : VR φ H w (ofVal v) v := by
  cases v <;> simp [ofVal, VR]
theorem vrs_ofVals : ∀ (l : List Value), VRs φ H w (ofVals l) l
  | [] => by simp [ofVals, VRs]
  | v :: r => ⟨v, r, rfl, vr_ofVal v, vrs_ofVals r⟩
theorem vr_ofV {v : Value} (h : ∀ c ∈ v.cells.toList, c.oneCell' = true) : VR φ H w (ofV v) v := by
  cases v
  case agg a => exact ⟨a.toList, by simp, by simpa [Value.cells] using h, vrs_ofVals _⟩
  all_goals simp [ofV, ofVal, VR]
theorem vr_flat : ∀ {el : AV} {x : Value}, VR φ H w el x → VRs φ H w (flat el) x.cells.toList
  | .int _ k n, x, h => by
    have : x = .int k n := h
    subst this
    exact ⟨_, _, rfl, rfl, rfl⟩
  | .bool b, x, h => by
    have : x = .bool b := h
    subst this
    exact ⟨_, _, rfl, rfl, rfl⟩
  | .val v, x, h => by
    have : x = v := h
    subst this
    cases x <;> first | exact ⟨_, _, rfl, rfl, rfl⟩ | exact vrs_ofVals _
  | .agg cs, x, h => by
    obtain ⟨us, rfl, _, h2⟩ := h
    simpa [flat, Value.cells] using h2
  | .tup cs, x, h => by
    have h' := h
    obtain ⟨us, rfl, h2⟩ := h
    exact ⟨_, _, rfl, h', rfl⟩
  | .ptr ix bs off, x, h => by
    have h' := h
    obtain ⟨b, o, _, rfl⟩ := h
    exact ⟨_, _, rfl, h', rfl⟩
  | .rptr ix bs st i off, x, h => by
    have h' := h
    obtain ⟨b, o, _, rfl⟩ := h
    exact ⟨_, _, rfl, h', rfl⟩
  | .own ix bs st i n, x, h => by
    have h' := h
    rcases h with ⟨b, o, cap, T, N, _, rfl, _⟩ | ⟨_, a, rfl, _⟩
    · exact ⟨_, _, rfl, h', rfl⟩
    · exact ⟨_, _, rfl, h', rfl⟩
  | .list st gd full l, x, h => by
    have h' := h
    obtain ⟨us, _, a, n, cap, rfl, _⟩ := h
    exact ⟨_, _, rfl, h', rfl⟩
  | .mlist st gd full _ enc _ l, x, h => by
    have h' := h
    obtain ⟨us, _, _, a, n, cap, rfl, _⟩ := h
    exact ⟨_, _, rfl, h', rfl⟩
  | .hptr el st off, x, h => by
    have h' := h
    obtain ⟨y, ad, _, rfl, _⟩ := h
    exact ⟨_, _, rfl, h', rfl⟩
  | .fn f cs, x, h => by
    have h' := h
    obtain ⟨us, rfl, _⟩ := h
    exact ⟨_, _, rfl, h', rfl⟩
theorem fl_len {st : Nat} : ∀ {us : List Value}, Ones st us → (fl us).length = us.length * st
  | [], _ => by simp [fl]
  | u :: us, h => by
    have h1 := fl_len (us := us) fun x hx => h x (List.mem_cons_of_mem _ hx)
    have h2 := (h u (by simp)).1
    simp only [fl, List.flatMap_cons, List.length_append, List.length_cons, Array.length_toList] at h1 ⊢
    rw [h1, h2, Nat.succ_mul, Nat.add_comm]
theorem fl_append (a b : List Value) : fl (a ++ b) = fl a ++ fl b := by simp [fl]
theorem fl_drop {st : Nat} : ∀ {us : List Value}, Ones st us → ∀ i, fl (us.drop i) = (fl us).drop (i * st)
  | [], _, i => by simp [fl]
  | u :: us, h, 0 => by simp
  | u :: us, h, i + 1 => by
    have h1 := fl_drop (us := us) (fun x hx => h x (List.mem_cons_of_mem _ hx)) i
    have h2 := (h u (by simp)).1
    have h3 : fl (u :: us) = u.cells.toList ++ fl us := by simp [fl]
    rw [List.drop_succ_cons, h1, h3, Nat.succ_mul, List.drop_append, List.drop_of_length_le (l := u.cells.toList) (by simp [h2]), List.nil_append]
    congr 1
    simp [h2]
theorem fl_take {st : Nat} : ∀ {us : List Value}, Ones st us → ∀ i, fl (us.take i) = (fl us).take (i * st)
  | [], _, i => by simp [fl]
  | u :: us, h, 0 => by simp [fl]
  | u :: us, h, i + 1 => by
    have h1 := fl_take (us := us) (fun x hx => h x (List.mem_cons_of_mem _ hx)) i
    have h2 := (h u (by simp)).1
    have h3 : fl (u :: us) = u.cells.toList ++ fl us := by simp [fl]
    have h4 : fl (u :: us.take i) = u.cells.toList ++ fl (us.take i) := by simp [fl]
    rw [List.take_succ_cons, h4, h1, h3, Nat.succ_mul, List.take_append, List.take_of_length_le (l := u.cells.toList) (by simp [h2])]
    congr 2
    simp [h2]
theorem ones_take {st : Nat} {us : List Value} (h : Ones st us) (i : Nat) : Ones st (us.take i) := fun x hx => h x (List.mem_of_mem_take hx)
theorem ones_drop {st : Nat} {us : List Value} (h : Ones st us) (i : Nat) : Ones st (us.drop i) := fun x hx => h x (List.mem_of_mem_drop hx)
theorem ones_append {st : Nat} {us vs : List Value} (h : Ones st us) (k : Ones st vs) : Ones st (us ++ vs) := fun x hx => by
  rcases List.mem_append.1 hx with h1 | h1
  · exact h x h1
  · exact k x h1
/-- The cells of an element within the cells of all. -/
theorem fl_split {st : Nat} {us : List Value} (h : Ones st us) {i : Nat} {u : Value} (hu : us[i]? = some u) : ∃ r, (fl us).drop (i * st) = u.cells.toList ++ r := by
  rw [← fl_drop h]
  have hlt : i < us.length := (List.getElem?_eq_some_iff.1 hu).1
  have h2 : us[i] = u := (List.getElem?_eq_some_iff.1 hu).2
  rw [List.drop_eq_getElem_cons hlt, h2]
  exact ⟨fl (us.drop (i + 1)), by simp [fl]⟩
theorem fl_one {st : Nat} {us : List Value} (h : Ones st us) : ∀ c ∈ fl us, c.oneCell' = true := fun c hc => by
  obtain ⟨x, hx, hc⟩ := List.mem_flatMap.1 hc
  exact (h x hx).2 c hc
theorem range_drop {b o : Nat} {cs : List Value} (h : w.rangeAt b o cs) (i : Nat) : w.rangeAt b (o + i) (cs.drop i) := fun j v hj => by
  rw [Nat.add_assoc]; exact h (i + j) v (by simpa using hj)
theorem range_take {b o : Nat} {cs : List Value} (h : w.rangeAt b o cs) (i : Nat) : w.rangeAt b o (cs.take i) := fun j v hj => by
  refine h j v ?_
  rw [List.getElem?_take] at hj
  split at hj
  · exact hj
  · cases hj
theorem range_left {b o : Nat} {cs ds : List Value} (h : w.rangeAt b o (cs ++ ds)) : w.rangeAt b o cs := fun j v hj => h j v (by
  rw [List.getElem?_append_left (List.getElem?_eq_some_iff.1 hj).1]; exact hj)
theorem range_of_heap {b : Nat} {cs : List Value} {e : TypeId} {fz : Nat × Nat} (h : w.heap[b]? = some (.cells cs.toArray e fz)) : w.rangeAt b 0 cs := fun j v hj => by
  simp [World.cell?, h, hj]
theorem range_mid {b : Nat} {pre cs rest : List Value} {e : TypeId} {fz : Nat × Nat} (h : w.heap[b]? = some (.cells (pre ++ (cs ++ rest)).toArray e fz)) : w.rangeAt b pre.length cs := by
  have h1 := range_drop (range_of_heap h) pre.length
  simp only [Nat.zero_add, List.drop_left] at h1
  exact range_left h1
end
/-- What an object is. -/
def ObR (φ : Phi) (H : Nat → Prop) (w : World) : Ob → Nat → Nat → Prop
  | .box e cells, b, o => ∃ pre us rest, w.heap[b]? = some (.cells (pre ++ (us ++ rest)).toArray e (0, 0)) ∧ pre.length = o ∧ VRs φ H w cells us ∧ ∀ u ∈ us, u.oneCell' = true
  | .row e st c, b, o => ∃ els pre us rest, seqList real c = some els ∧ w.heap[b]? = some (.cells (pre ++ (fl us ++ rest)).toArray e (0, 0)) ∧ pre.length = o ∧ VRs φ H w els us ∧ Ones st us
/-- What is kept from a judgement: blocks, names. -/
structure Fr where
  blk : Nat → Prop
  nam : Nat → Nat → Prop
instance : CoeFun Fr (fun _ => Nat → Prop) := ⟨Fr.blk⟩
structure Rel (φ : Phi) (H : Nat → Prop) (F : Fr) (ob : List Ent) (nx : Nat) (w : World) : Prop where
  lt : ∀ ix bs b o, φ ix bs = some (b, o) → b < w.heap.size ∧ bs < nx
  hlt : ∀ b, H b → b < w.heap.size
  flt : ∀ b, F b → b < w.heap.size
  hf : ∀ b, H b → F b → False
  obs : ∀ e ∈ ob, ∀ b o, φ e.ix e.bs = some (b, o) → ¬ H b ∧ ¬ F b ∧ ObR φ H w e.ob b o
  nb : ∀ e ∈ ob, e.bs < nx
  nd : ob.Pairwise fun e e' => e.ix ≠ e'.ix ∨ e.bs ≠ e'.bs
  inj : ob.Pairwise fun e e' => ∀ b o b' o', φ e.ix e.bs = some (b, o) → φ e'.ix e'.bs = some (b', o') → b ≠ b'
  fnm : (∀ ix bs, F.nam ix bs → bs < nx) ∧ ∀ e ∈ ob, ¬ F.nam e.ix e.bs
theorem find_mem : ∀ {ob : List Ent} {ix : Nat} {e : Ent}, find ob ix = some e → e ∈ ob ∧ e.ix = ix
  | [], _, _, h => by simp [find] at h
  | x :: r, ix, e, h => by
    rw [find] at h
    cases hb : eqb x.ix ix with
    | true =>
      rw [hb] at h
      simp at h
      subst h
      exact ⟨by simp, eqb_eq hb⟩
    | false =>
      rw [hb] at h
      obtain ⟨h1, h2⟩ := find_mem (by simpa using h)
      exact ⟨by simp [h1], h2⟩
section
variable {φ : Phi} {H : Nat → Prop} {F : Fr} {w : World} {ob : List Ent} {nx : Nat} {P : Program} {T : Tab}
theorem isRow_eq (d : TypeDesc) : isRow d = d.isRow := by cases d <;> rfl
/-- A load out of known cells. -/
theorem load_cells (hT : TabOk P T) {t : TypeId} {i : TI} (hi : tget T t = some i) {cs : List AV} {us : List Value} (hr : VRs φ H w cs us) (h1 : ∀ u ∈ us, u.oneCell' = true)
    {b o off : Nat} (hc : w.rangeAt b o us) {v : AV} (hv : ofCells i cs off = some v) :
    ∃ u, (Instr.loadAt t (.pointer (some ⟨b, o + off, none⟩))).run P w = .ok u w ∧ VR φ H w v u := by
  obtain ⟨hu, f, hf, ⟨hs, _, _⟩, _, _⟩ := hT t i hi
  unfold ofCells at hv
  cases hd : isRow i.desc with
  | true =>
    rw [hd, cond_true] at hv
    cases hx : lsub cs off i.size with
    | none => simp [hx] at hv
    | some xs =>
      simp [hx] at hv
      obtain ⟨rfl, hle⟩ := lsub_some hx
      have hlen := vrs_len hr
      have hr2 := vrs_take (vrs_drop hr off) i.size
      have hc2 := range_take (range_drop hc off) i.size
      have hl : ((us.drop off).take i.size).length = i.size := by simp; omega
      refine ⟨_, run_loadAt_mid w b (o + off) t _ i.desc hc2 hu (by rw [← isRow_eq]; exact hd) (by rw [hf, hl]; simp [hs]), ?_⟩
      rw [← hv]
      exact ⟨_, rfl, fun c hc => h1 c (List.mem_of_mem_drop (List.mem_of_mem_take hc)), hr2⟩
  | false =>
    rw [hd, cond_false] at hv
    have hv2 := lget_some hv
    have hlt := (List.getElem?_eq_some_iff.1 hv2).1
    obtain ⟨u, hu2, hvr⟩ := (vrs_get hr).2 off hlt
    have e : cs[off] = v := (List.getElem?_eq_some_iff.1 hv2).2
    rw [e] at hvr
    have hcell := hc off u hu2
    refine ⟨u, ?_, hvr⟩
    have hagg : (isAgg t).run P w = .ok false w := by
      unfold isAgg
      rw [Sem.run_bind, run_underlying hu w]
      cases hdd : i.desc <;> rw [hdd] at hd <;> first | rfl | (simp [isRow] at hd)
    simp [Instr.loadAt, Instr.sureAddr, loadVar, Sem.run_bind, hagg, hcell]
theorem Rel.box (h : Rel φ H F ob nx w) {ix bs' : Nat} {e : TypeId} {cells : List AV} (hf : find ob ix = some ⟨ix, bs', .box e cells⟩) {b o : Nat} (hp : φ ix bs' = some (b, o)) :
    ∃ us, VRs φ H w cells us ∧ (∀ u ∈ us, u.oneCell' = true) ∧ w.rangeAt b o us := by
  obtain ⟨_, _, pre, us, rest, h1, h2, h3, h4⟩ := h.obs _ (find_mem hf).1 b o hp
  exact ⟨us, h3, h4, by rw [← h2]; exact range_mid h1⟩
theorem Rel.row (h : Rel φ H F ob nx w) {ix bs' st : Nat} {e : TypeId} {c : AV} (hf : find ob ix = some ⟨ix, bs', .row e st c⟩) {b o : Nat} (hp : φ ix bs' = some (b, o)) :
    ∃ els us, seqList real c = some els ∧ VRs φ H w els us ∧ Ones st us ∧ w.rangeAt b o (fl us) := by
  obtain ⟨_, _, els, pre, us, rest, h0, h1, h2, h3, h4⟩ := h.obs _ (find_mem hf).1 b o hp
  exact ⟨els, us, h0, h3, h4, by rw [← h2]; exact range_mid h1⟩
theorem seq_get {c : AV} {els : List AV} {i n : Nat} {el : AV} (h : seqList real c = some els) (hg : seqGet real c i = some el) (hl : seqLen real c = some n) : n = els.length ∧ (i < n → els[i]? = some el) := by
  cases c <;> simp [seqList, seqGet, seqLen, real] at h hg hl
  · subst h; subst hg
    exact ⟨hl.symm, fun hi => by rw [← hl] at hi; simp [hi]⟩
  · subst h; subst hg
    refine ⟨by simp [hl], fun hi => ?_⟩
    rw [← hl] at hi
    simp [hi]
/-- The law of aload. -/
theorem aload_ok (hT : TabOk P T) (hR : Rel φ H F ob nx w) {t : TypeId} {p : AV} {u : Value} (hu : VR φ H w p u) {cs : List Bool} {v : AV} (h : aload real T t p ob = some (cs, v)) (hc : ∀ c ∈ cs, c = true) :
    ∃ x, (Instr.loadAt t u).run P w = .ok x w ∧ VR φ H w v x := by
  unfold aload at h
  cases hi : tget T t with
  | none => simp [hi] at h
  | some i =>
    simp only [hi] at h
    cases p <;> try (simp at h; done)
    case ptr ix bs off =>
      simp only at h
      cases hf : find ob ix with
      | none => simp [hf] at h
      | some e =>
        obtain ⟨ix', bs', o'⟩ := e
        obtain rfl : ix' = ix := (find_mem hf).2
        cases o' with
        | row => simp [hf] at h
        | box e cells =>
          simp only [hf] at h
          cases hv : ofCells i cells off with
          | none => simp [hv] at h
          | some v' =>
            simp [hv] at h
            obtain ⟨rfl, rfl⟩ := h
            obtain ⟨b, o, hp, rfl⟩ := hu
            have hb : bs = bs' := by have := hc _ (by simp : real.neq bs bs' ∈ _); exact eqb_eq this
            subst hb
            obtain ⟨us, hr, h1, hrg⟩ := hR.box hf hp
            exact load_cells hT hi hr h1 hrg hv
    case rptr ix bs st j off =>
      simp only at h
      cases hf : find ob ix with
      | none => simp [hf] at h
      | some e =>
        obtain ⟨ix', bs', o'⟩ := e
        obtain rfl : ix' = ix := (find_mem hf).2
        cases o' with
        | box => simp [hf] at h
        | row e st' c =>
          simp only [hf] at h
          cases hst : eqb st st' with
          | false => simp [hst] at h
          | true =>
            obtain rfl := eqb_eq hst
            rw [hst, cond_true] at h
            cases hl : seqLen real c with
            | none => simp [hl] at h
            | some n =>
              cases hg : seqGet real c j with
              | none => simp [hl, hg] at h
              | some el =>
                simp only [hl, hg] at h
                cases hv : ofCells i (flat el) off with
                | none => simp [hv] at h
                | some v' =>
                  simp [hv] at h
                  obtain ⟨rfl, rfl⟩ := h
                  obtain ⟨b, o, hp, rfl⟩ := hu
                  have hb : bs = bs' := by have := hc _ (by simp : real.neq bs bs' ∈ _); exact eqb_eq this
                  have hj : j < n := by have := hc _ (by simp : real.nlt j n ∈ _); exact Nat.lt_of_lt_of_le (Nat.lt_succ_self _) (Nat.le_of_ble_eq_true this)
                  subst hb
                  obtain ⟨els, us, h0, hr, h1, hrg⟩ := hR.row hf hp
                  obtain ⟨rfl, hel⟩ := seq_get h0 hg hl
                  have hel := hel hj
                  obtain ⟨x, hx, hvr⟩ := (vrs_get hr).2 j hj
                  have e1 : els[j] = el := (List.getElem?_eq_some_iff.1 hel).2
                  rw [e1] at hvr
                  obtain ⟨r, hsp⟩ := fl_split h1 hx
                  have hrg2 := range_drop hrg (j * st)
                  rw [hsp] at hrg2
                  exact load_cells hT hi (vr_flat hvr) (fun c hc => (h1 x (List.mem_of_getElem? hx)).2 c hc) (range_left hrg2) hv
    case hptr el st off =>
      simp only at h
      cases hv : ofCells i (flat el) off with
      | none => simp [hv] at h
      | some v' =>
        simp [hv] at h
        obtain ⟨rfl, rfl⟩ := h
        obtain ⟨x, ad, hvr, rfl, h1, _, _, hrg⟩ := hu
        exact load_cells hT hi (vr_flat hvr) (fun c hc => (h1 x (by simp)).2 c hc) hrg hv
end
end Go.Proofs.Ytckkcgkgfkgfdaa.AM
