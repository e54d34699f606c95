/- What makes an object: over an abstract memory, and in a world. Plain laws; no condition. -/
import Derived.Test.YtckkcgkgfkgfdaaAmH
import Derived.Laws.MakeOwn
namespace Go.Proofs.Ytckkcgkgfkgfdaa.AM
universe u
section
variable (O : Num) (T : Tab)
/-- The parts of a literal row: all of them, in order. -/
def fullP : List (Nat × Operand) → Nat → Bool
  | [], _ => true
  | (i, _) :: r, k => bif eqb i k then fullP r (k + 1) else false
def allSz (st : Nat) : List AV → Bool
  | [] => true
  | v :: r => bif eqb (llen (flat v)) st then allSz st r else false
def aal (op : Op) (xs : List AV) (ix nx : Nat) : Option (List Bool × Ob × AV) :=
  match op, xs with
  | .alloc t, [] => match tget T t with
    | some ⟨_, _, _, some z, _⟩ => some ([], .box t (flat (ofV z)), .ptr ix nx 0)
    | _ => none
  | .box t _, [v] => bif notTup v then some ([], .box t (flat v), .ptr ix nx 0) else none
  | .buildSlice t len ps, vs => match tget T t with
    | some ⟨.slice e, _, _, _, _⟩ => match tget T e with
      | some ⟨_, st, _, some _, _⟩ => bif okst st st then bif fullP ps.toList 0 then bif eqb (llen vs) len then bif allNT vs then bif allSz st vs then bif leb (len * st) 16777216 then
          some ([], .row e st (.list st true true vs), .own ix nx st 0 len) else none else none else none else none else none else none
      | _ => none
    | _ => none
  | .makeSlice t _ _, [.int _ _ n, .int _ _ c] => match tget T t with
    | some ⟨.slice e, _, _, _, _⟩ => match tget T e with
      | some ⟨_, st, by_, some z, _⟩ => bif okst st st then bif okst by_ by_ then bif eqb (llen (flat (ofV z))) st then
          some ([O.le 0 n, O.eq n c, O.nle (O.i2n n) (140737488355328 / by_)], .row e st (.list st true true (O.rep (O.i2n n) (ofV z))), .own ix nx st 0 (O.i2n n)) else none else none else none
      | _ => none
    | _ => none
  | _, _ => none
end
section
variable {φ : Phi} {H : Nat → Prop} {F : Fr} {w : World} {ob : List Ent} {nx : Nat} {P : Program} {T : Tab}
theorem fill_all {st : Nat} (hst : 0 < st) {len : Nat} {ρ : Operand → Value} : ∀ (ps : List (Nat × Operand)) (k : Nat) (cs : Array Value), fullP ps k = true → k + ps.length = len → cs.size = len * st → Ones st ((snds ps).map ρ) →
    Instr.fill (fun i => some (i * st, st)) cs (ps.map fun p => (p.1, ρ p.2)) = some (cs.toList.take (k * st) ++ fl ((snds ps).map ρ)).toArray
  | [], k, cs, _, hk, hs, _ => by
    have : k = len := by simpa using hk
    subst this
    have : cs.toList.take (k * st) = cs.toList := List.take_of_length_le (by simp [hs])
    simp [Instr.fill, snds, fl, this]
  | (i, x) :: ps, k, cs, hf, hk, hs, ho => by
    rw [fullP] at hf
    cases hi : eqb i k with
    | false => simp [hi] at hf
    | true =>
      obtain rfl := eqb_eq hi
      rw [hi, cond_true] at hf
      have hx : (ρ x).cells.size = st := (ho _ (by simp [snds])).1
      have hle : i * st + st ≤ len * st := by rw [← Nat.succ_mul]; exact Nat.mul_le_mul_right _ (by simp at hk; omega)
      rw [List.map_cons, fill_ok (size := st) rfl hx (by rw [hs]; exact hle)]
      rw [fill_all (len := len) hst ps (i + 1) _ hf (by simp at hk; omega) (by simp [hx]; omega) (fun y hy => ho y (by simp only [snds, List.map_cons, List.mem_cons]; exact .inr hy))]
      congr 2
      have e : (cs.toList.take (i * st)).length = i * st := by simp; omega
      have e2 : (ρ x).cells.toList.length = st := by simpa using hx
      simp only [snds, List.map_cons, fl, List.flatMap_cons]
      rw [show ((i + 1) * st) = i * st + st from Nat.succ_mul ..]
      rw [List.take_append_of_le_length (by simp [hx]; omega), List.take_of_length_le (by simp [hx]; omega)]
      simp
theorem allSz_ok {st : Nat} : ∀ {vs : List AV} {us : List Value}, allSz st vs = true → allNT vs = true → VRs φ H w vs us → Ones st us
  | [], us, _, _, h => by
    have : us = [] := h
    subst this
    intro x hx; cases hx
  | v :: vs, us, h1, h2, h => by
    obtain ⟨u, us', rfl, h3, h4⟩ := h
    rw [allSz] at h1
    cases hb : eqb (llen (flat v)) st with
    | false => simp [hb] at h1
    | true =>
      rw [hb, cond_true] at h1
      have hb := eqb_eq hb
      rw [llen_eq, vrs_len (vr_flat h3)] at hb
      have h5 := allNT_ok h2 (us := u :: us') ⟨u, us', rfl, h3, h4⟩
      have h2' : allNT vs = true := by
        rw [allNT] at h2
        cases hv : notTup v with
        | false => simp [hv] at h2
        | true => simpa [hv] using h2
      intro x hx
      rcases List.mem_cons.1 hx with rfl | hx
      · exact ⟨by simpa using hb, h5 x (by simp)⟩
      · exact allSz_ok h1 h2' h4 x hx
theorem made_fl {z : Value} {st n : Nat} (hz : z.cells.size = st) : (madeCells z.cells (n * st)).toList = fl (List.replicate n z) := by
  have : ∀ n, (List.range (n * st)).map (fun i => z.cells[i % z.cells.size]!) = fl (List.replicate n z) := fun n => by
    induction n with
    | zero => simp [fl]
    | succ n ih =>
      rw [Nat.succ_mul, List.range_add, List.map_append, ih, List.replicate_succ', fl_append]
      congr 1
      simp only [fl, List.flatMap_cons, List.flatMap_nil, List.append_nil]
      apply List.ext_getElem
      · simp [hz]
      · intro i h1 h2
        have hi : i < st := by simpa using h1
        have hm : (n * st + i) % z.cells.size = i := by rw [hz, Nat.add_comm, Nat.add_mul_mod_self_right]; exact Nat.mod_eq_of_lt hi
        have hi' : i < z.cells.size := by omega
        simp [hm, hi']
  unfold madeCells
  simpa using this n
/-- A new row as a value. -/
theorem vr_new_row {φ' : Phi} {H' : Nat → Prop} {w' : World} {ix : Nat} {b : Nat} {c : Array Value} {e : TypeId} {n st : Nat} (hp : φ' ix nx = some (b, 0)) (hw : w'.heap[b]? = some (.cells c e (0, 0))) (cap : Nat) (hn : n ≤ cap) (hcap : cap * st ≤ c.size) :
    VR φ' H' w' (.own ix nx st 0 n) (.slice (some ⟨b, 0, none⟩) n cap) :=
  .inl ⟨b, 0, cap, e, c.size, hp, by simp, hn, by simp [World.shape?, hw], by simpa using hcap, fun k => by simp [World.frozen?, hw]⟩
set_option maxHeartbeats 1000000 in
theorem aal_ok (hT : TabOk P T) {ρ : Operand → Value} (o : Oper) {xs : List AV} (hx : VRs φ H w xs ((opds o.op).map ρ)) {ix : Nat} {cs : List Bool} {b : Ob} {v : AV} (h : aal real T o.op xs ix nx = some (cs, b, v)) (hc : ∀ c ∈ cs, c = true) :
    ∃ c e u, (execOp ρ o).run P w = .ok (.value u) (w.alloc (.cells c e)) ∧ (∀ φ' H', Up φ H w φ' H' (w.alloc (.cells c e)) → ObR φ' H' (w.alloc (.cells c e)) b w.heap.size 0) ∧
      ∀ φ' H', φ' ix nx = some (w.heap.size, 0) → VR φ' H' (w.alloc (.cells c e)) v u := by
  obtain ⟨dst, op, ty, pos, aft, g⟩ := o
  have hnew : ∀ (c : Array Value) (e : TypeId), (w.alloc (.cells c e)).heap[w.heap.size]? = some (.cells c e (0, 0)) := fun c e => heap_alloc_new w _
  have fin : ∀ {s : Sem Value} {c : Array Value} {e : TypeId} {u : Value}, s.run P w = .ok u (w.alloc (.cells c e)) → (execOp ρ ⟨dst, op, ty, pos, aft, g⟩) = (do pure (Next.value (← s))) →
      (∀ φ' H', Up φ H w φ' H' (w.alloc (.cells c e)) → ObR φ' H' (w.alloc (.cells c e)) b w.heap.size 0) → (∀ φ' H', φ' ix nx = some (w.heap.size, 0) → VR φ' H' (w.alloc (.cells c e)) v u) →
      ∃ c e u, (execOp ρ ⟨dst, op, ty, pos, aft, g⟩).run P w = .ok (.value u) (w.alloc (.cells c e)) ∧ (∀ φ' H', Up φ H w φ' H' (w.alloc (.cells c e)) → ObR φ' H' (w.alloc (.cells c e)) b w.heap.size 0) ∧
      ∀ φ' H', φ' ix nx = some (w.heap.size, 0) → VR φ' H' (w.alloc (.cells c e)) v u := fun h1 e h2 h3 => ⟨_, _, _, by rw [e]; exact run_value h1, h2, h3⟩
  simp only at hx h
  unfold aal at h
  split at h
  · -- alloc
    rename_i t
    split at h
    · rename_i d s by_ z q hi
      simp at h
      obtain ⟨rfl, rfl, rfl⟩ := h
      obtain ⟨f, hf, _, _, hz⟩ := hT.inf hi
      have hone := hT.zone hi
      refine fin (s := Instr.alloc t true (.tuple #[])) (c := z.cells) (e := t) (u := .pointer (some ⟨w.heap.size, 0, none⟩)) ?_ rfl (fun φ' H' _ => ?_) (fun φ' H' hp => ⟨_, _, hp, by simp⟩)
      · simp [Instr.alloc, zeroValue, typeInfo, hf, hz, newVar, newRow]
      · exact ⟨[], z.cells.toList, [], by rw [hnew]; simp, rfl, vr_flat (vr_ofV hone), hone⟩
    · simp at h
  · -- box
    rename_i t x v'
    cases hn : notTup v' with
    | false => simp [hn] at h
    | true =>
      simp [hn] at h
      obtain ⟨rfl, rfl, rfl⟩ := h
      obtain ⟨u, us', e, h1, e2⟩ := hx
      have e2 : us' = [] := e2
      subst e2
      simp [opds] at e
      subst e
      refine fin (s := Instr.box t (ρ x)) (c := (ρ x).cells) (e := t) (u := .pointer (some ⟨w.heap.size, 0, none⟩)) ?_ rfl (fun φ' H' hup => ?_) (fun φ' H' hp => ⟨_, _, hp, by simp⟩)
      · simp [Instr.box, newVar, newRow]
      · exact ⟨[], (ρ x).cells.toList, [], by rw [hnew]; simp, rfl, vr_flat (hup.vr _ _ h1), one_cells hn h1⟩
  · -- buildSlice
    rename_i t len ps
    have hx : VRs φ H w xs ((snds ps.toList).map ρ) := hx
    split at h
    · rename_i e _ _ _ _ hi
      split at h
      · rename_i d st by_ z q he
        cases c1 : okst st st <;> simp only [c1, cond_false, cond_true, reduceCtorEq] at h
        cases c2 : fullP ps.toList 0 <;> simp only [c2, cond_false, cond_true, reduceCtorEq] at h
        cases c3 : eqb (llen xs) len <;> simp only [c3, cond_false, cond_true, reduceCtorEq] at h
        cases c4 : allNT xs <;> simp only [c4, cond_false, cond_true, reduceCtorEq] at h
        cases c5 : allSz st xs <;> simp only [c5, cond_false, cond_true, reduceCtorEq] at h
        cases c6 : leb (len * st) 16777216 <;> simp only [c6, cond_false, cond_true, reduceCtorEq] at h
        simp at h
        obtain ⟨rfl, rfl, rfl⟩ := h
        have hpos := (okst_of c1).2
        have hlen : xs.length = len := by rw [← llen_eq]; exact eqb_eq c3
        have hle := leb_le c6
        have ho := allSz_ok c5 c4 hx
        have hl2 := vrs_len hx
        have hl3 : (snds ps.toList).length = ps.toList.length := snds_len _
        simp only [List.length_map] at hl2
        obtain ⟨f, hf, hfs, _, hz⟩ := hT.inf he
        have hund := hT.und hi
        have hfs : f.size = st := hfs
        have hz : f.zero = some z := hz
        have hrow : ∀ φ' H', Up φ H w φ' H' (w.alloc (.cells (fl ((snds ps.toList).map ρ)).toArray e)) → ObR φ' H' (w.alloc (.cells (fl ((snds ps.toList).map ρ)).toArray e)) (.row e st (.list st true true xs)) w.heap.size 0 := fun φ' H' hup =>
          ⟨xs, [], _, [], rfl, by rw [hnew]; simp, rfl, hup.vrs _ _ hx, ho⟩
        have hval : ∀ φ' H', φ' ix nx = some (w.heap.size, 0) → VR φ' H' (w.alloc (.cells (fl ((snds ps.toList).map ρ)).toArray e)) (.own ix nx st 0 len) (.slice (some ⟨w.heap.size, 0, none⟩) len len) := fun φ' H' hp => by
          have e0 : len = ((snds ps.toList).map ρ).length := by rw [List.length_map, ← hl2, hlen]
          have : len * st = (fl ((snds ps.toList).map ρ)).length := by rw [fl_len ho, ← e0]
          exact vr_new_row hp (hnew _ _) len (Nat.le_refl _) (by simp [this])
        refine fin (s := Instr.buildSlice t len (ps.map fun (i, x) => (i, ρ x))) (c := (fl ((snds ps.toList).map ρ)).toArray) (e := e) (u := .slice (some ⟨w.heap.size, 0, none⟩) len len) ?_ rfl hrow hval
        by_cases h0 : len = 0
        · have hps : ps = #[] := by
            have : ps.toList.length = 0 := by omega
            apply Array.ext'; simpa using this
          subst hps
          simp [Instr.buildSlice, run_underlying hund, sizeOf, typeInfo, hf, h0, Instr.fill, newRow, snds, fl]
          have e0 : Array.map (fun (_ : Nat) => (default : Value)) (Array.range 0) = #[] := Array.eq_empty_of_size_eq_zero (by simp)
          rw [e0]
        · have hlp : ¬ len * f.size = 0 := by rw [hfs]; intro hh; rcases Nat.mul_eq_zero.1 hh with hh | hh <;> omega
          have hpl : 0 + ps.toList.length = len := by omega
          have := fill_all (len := len) (ρ := ρ) hpos ps.toList 0 ((Array.range (len * f.size)).map (z.cells[· % z.cells.size]!)) c2 hpl (by simp [hfs]) ho
          refine run_buildSlice w t e len _ _ f z hund hf hz (by rw [hfs]; omega) hlp ?_
          rw [hfs] at this ⊢
          simpa using this
      · simp at h
    · simp at h
  · -- makeSlice
    rename_i t x y l k n l' k' c
    split at h
    · rename_i e _ _ _ _ hi
      split at h
      · rename_i d st by_ z q he
        cases c1 : okst st st <;> simp only [c1, cond_false, cond_true, reduceCtorEq] at h
        cases c2 : okst by_ by_ <;> simp only [c2, cond_false, cond_true, reduceCtorEq] at h
        cases c3 : eqb (llen (flat (ofV z))) st <;> simp only [c3, cond_false, cond_true, reduceCtorEq] at h
        simp at h
        obtain ⟨rfl, rfl, rfl⟩ := h
        have hpos := (okst_of c1).2
        have hby := (okst_of c2).2
        have h0 : 0 ≤ n := le_of (hc _ List.mem_cons_self)
        have hnc : n = c := by
          have := hc (real.eq n c) (by simp)
          simpa [real] using this
        have hlim : n.toNat ≤ 140737488355328 / by_ := Nat.le_of_ble_eq_true (hc (real.nle (real.i2n n) (140737488355328 / by_)) (by simp))
        subst hnc
        obtain ⟨f, hf, hfs, hfb, hz⟩ := hT.inf he
        have hund := hT.und hi
        have hfs : f.size = st := hfs
        have hfb : f.bytes = by_ := hfb
        have hz : f.zero = some z := hz
        have hone := hT.zone he
        have hzs : z.cells.size = st := by
          have := eqb_eq c3
          rw [llen_eq, vrs_len (vr_flat (φ := φ) (H := H) (w := w) (vr_ofV hone))] at this
          simpa using this
        have hmul : by_ * n.toNat ≤ 140737488355328 := by
          have := Nat.mul_le_of_le_div _ _ _ hlim
          rw [Nat.mul_comm]; exact this
        have hmi : (by_ : Int) * n ≤ 140737488355328 := by
          have h1 : ((by_ * n.toNat : Nat) : Int) ≤ 140737488355328 := by omega
          rw [Int.natCast_mul, Int.toNat_of_nonneg h0] at h1
          exact h1
        have hn63 : n ≤ 9223372036854775807 := by
          have : n.toNat ≤ by_ * n.toNat := Nat.le_mul_of_pos_left _ hby
          omega
        obtain ⟨u1, _, e1, h1, u2, _, e2, h2, e4⟩ := hx
        have e4 : _ = [] := e4
        subst e4; subst e2
        simp [opds] at e1
        have h1 : u1 = .int k n := h1
        have h2 : u2 = .int k' n := h2
        have hrun := run_make w t e f z hund hf hz k k' n n h0 (Int.le_refl _) (by rw [hfb]; omega) hn63 (P := P)
        rw [hfs] at hrun
        have hfl := made_fl (n := n.toNat) hzs
        have ho : Ones st (List.replicate n.toNat z) := fun x hx => by
          obtain rfl := List.eq_of_mem_replicate hx
          exact ⟨hzs, hone⟩
        have hsz : (madeCells z.cells (n.toNat * st)).size = n.toNat * st := by
          have := congrArg List.length hfl
          rw [fl_len ho] at this
          simpa using this
        refine fin (s := Instr.makeSlice t (ρ x) (ρ y)) (c := madeCells z.cells (n.toNat * st)) (e := e) (u := .slice (some ⟨w.heap.size, 0, none⟩) n.toNat n.toNat) (by rw [e1.1, e1.2, h1, h2]; exact hrun) rfl (fun φ' H' _ => ?_) fun φ' H' hp => ?_
        · refine ⟨List.replicate n.toNat (ofV z), [], List.replicate n.toNat z, [], rfl, ?_, rfl, ?_, ho⟩
          · rw [hnew, ← hfl, List.nil_append, List.append_nil, Array.toArray_toList]
          · refine vrs_of (by rw [List.length_replicate, List.length_replicate]) fun i hi' => ⟨z, by rw [List.length_replicate] at hi'; rw [List.getElem?_replicate, if_pos hi'], ?_⟩
            rw [List.getElem_replicate]
            exact vr_ofV hone
        · exact vr_new_row hp (hnew _ _) n.toNat (Nat.le_refl _) (by rw [hsz]; exact Nat.le_refl _)
      · simp at h
    · simp at h
  · simp at h
where
  snds_len : ∀ (l : List (Nat × Operand)), (snds l).length = l.length
    | [] => rfl
    | _ :: r => by simp [snds, snds_len r]
end
end Go.Proofs.Ytckkcgkgfkgfdaa.AM
