/- A law's arguments, read as data, over an abstract memory; a law's end. Plain laws; no condition. -/
import Derived.Test.YtckkcgkgfkgfdaaAmW
import Derived.ChangeOld
import Derived.DataReads
import Derived.Deep.Slices
import Derived.OpenShut
import Derived.Below
set_option linter.unusedVariables false
set_option linter.unusedSimpArgs false
namespace Go.Proofs.Ytckkcgkgfkgfdaa.AM
open Go.RowKit
def phi0 : Phi := fun _ _ => none
def held0 (w : World) : Nat → Prop := fun b => b < w.heap.size
/-- Cells that are as a value says. -/
def AC (w : World) (v : AV) (cs : List Value) : Prop := VR phi0 (held0 w) w v (match v with | .agg _ => .agg cs.toArray | _ => cs.headD undef) ∧ (match v with | .agg _ => True | _ => cs.length = 1) ∧ ∀ c ∈ cs, c.oneCell' = true
/-- Whatever reads as data at a type is as an encoding says. -/
structure AOp {α : Type} (P : Program) (t : TypeId) (sz : Nat) (enc : α → AV) (ok : α → Prop) : Prop where
  out : ∀ {H : Type} {en : TypeId × Value → H} {w : World} {spare : Nat → Bool} {held : Bool} {fuel : Nat} {cs : List Value} {x : DataW H × List MemPlace},
    DataW.trod en P w 0 spare held fuel t cs = some x → ∃ a, ok a ∧ AC w (enc a) cs ∧ cs.length = sz
section
variable {P : Program} {t : TypeId}
theorem aop_int {k : IntKind} (ht : P.underlying t = some (.int k)) : AOp P t 1 (fun n => .int false k n) (fun n => (Lit.int k n).wf = true) := by
  constructor
  intro H en w spare held fuel cs x h
  obtain ⟨n, rfl, _, hw⟩ := DataW.trod_int ht h
  exact ⟨n, hw, ⟨rfl, rfl, fun c hc => by simp at hc; subst hc; rfl⟩, rfl⟩
theorem aop_bool (ht : P.underlying t = some .bool) : AOp P t 1 (fun b => .bool b) (fun _ => True) := by
  constructor
  intro H en w spare held fuel cs x h
  obtain ⟨n, rfl, _⟩ := DataW.trod_bool ht h
  exact ⟨n, trivial, ⟨rfl, rfl, fun c hc => by simp at hc; subst hc; rfl⟩, rfl⟩
theorem choose_list {α : Type} (z : α) (Q : Nat → α → Prop) : ∀ n, (∀ i, i < n → ∃ a, Q i a) → ∃ xs : List α, xs.length = n ∧ ∀ i (h : i < xs.length), Q i xs[i]
  | 0, _ => ⟨[], rfl, fun _ h => absurd h (by simp)⟩
  | n + 1, h => by
    obtain ⟨xs, hl, hx⟩ := choose_list z Q n (fun i hi => h i (by omega))
    obtain ⟨a, ha⟩ := h n (by omega)
    refine ⟨xs ++ [a], by simp [hl], fun i hi => ?_⟩
    by_cases hlt : i < xs.length
    · have e : (xs ++ [a])[i]'hi = xs[i] := by simp [hlt]
      rw [e]; exact hx i hlt
    · have hi' : i = n := by simp at hi; omega
      subst hi'
      have e : (xs ++ [a])[i]'hi = a := by simp [← hl]
      rw [e]; exact ha
/-- The value that an element's cells are. -/
def ofCs (v : AV) (cs : List Value) : Value := match v with | .agg _ => .agg cs.toArray | _ => cs.headD undef
theorem ofCs_cells {w : World} {v : AV} {cs : List Value} (h : AC w v cs) : (ofCs v cs).cells.toList = cs := by
  obtain ⟨_, h2, h3⟩ := h
  have one : ∀ cs : List Value, cs.length = 1 → (∀ c ∈ cs, c.oneCell' = true) → (cs.headD undef).cells.toList = cs := fun cs hl h1 => by
    match cs, hl with
    | [u], _ => 
      have hu := h1 u (by simp)
      show u.cells.toList = [u]
      cases u <;> first | rfl | (simp [Value.oneCell'] at hu; done)
  cases v <;> first | rfl | exact one cs h2 h3
theorem aop_slice {α : Type} (z : α) {e : TypeId} {st : Nat} {enc : α → AV} {ok : α → Prop} (ht : P.underlying t = some (.slice e)) (hc : P.cellsOf e = st) (hst : 0 < st) (h : AOp P e st enc ok) :
    AOp P t 1 (fun xs : List α => .mlist st false false α enc z xs) (fun xs => xs.length ≤ maxLen ∧ ∀ x ∈ xs, ok x) := by
  constructor
  intro H en w spare held fuel cs x hx
  rcases Go.Deep.open_slice ht hx with ⟨rfl, _⟩ | ⟨a, len, cap, m, n, D, Pl, rfl, hb, hl, hm, hmm, _, hi⟩
  · refine ⟨[], ⟨Nat.zero_le _, fun x hx => by cases hx⟩, ⟨?_, rfl, fun c hc => by simp at hc; subst hc; rfl⟩, rfl⟩
    exact Wk.nil_mlist st false false α enc z _ _ _ _ (show VR phi0 (held0 w) w (.val (.slice none 0 0)) (.slice none 0 0) from rfl)
  · have hlm : len ≤ m := by rw [hmm]; split <;> omega
    obtain ⟨xs, hxl, hxs⟩ := choose_list (z, ([] : List Value)) (fun i y => ok y.1 ∧ w.cells? 0 (a.add (i * P.cellsOf e)) (P.cellsOf e) = some y.2 ∧ AC w (enc y.1) y.2 ∧ y.2.length = st) len (fun i hlt => by
      obtain ⟨cs', h1, h2⟩ := hi i (by omega)
      obtain ⟨y, hy, hk, hl⟩ := h.out h2
      exact ⟨(y, cs'), hy, h1, hk, hl⟩)
    have hlen : xs.length ≤ maxLen := by omega
    refine ⟨xs.map (·.1), ⟨by rw [List.length_map]; exact hlen, fun x hx => ?_⟩, ⟨?_, rfl, fun c hc => by simp at hc; subst hc; rfl⟩, rfl⟩
    · obtain ⟨y, hy, rfl⟩ := List.mem_map.1 hx
      obtain ⟨i, hi', rfl⟩ := List.getElem_of_mem hy
      exact (hxs i hi').1
    · have hus : ∀ i (hi : i < xs.length), (xs.map fun y => ofCs (enc y.1) y.2)[i]? = some (ofCs (enc xs[i].1) xs[i].2) := fun i hi => by simp [List.getElem?_eq_getElem hi]
      have hones : Ones st (xs.map fun y => ofCs (enc y.1) y.2) := fun x hx => by
        obtain ⟨y, hy, rfl⟩ := List.mem_map.1 hx
        obtain ⟨i, hi', rfl⟩ := List.getElem_of_mem hy
        obtain ⟨_, _, hk, hl⟩ := hxs i hi'
        have hcs := ofCs_cells hk
        refine ⟨?_, ?_⟩
        · rw [← Array.length_toList, hcs, hl]
        · rw [hcs]; exact hk.2.2
      refine ⟨xs.map fun y => ofCs (enc y.1) y.2, by simp, fun i hi' => ?_, some a, len, cap, rfl, by simp [hxl], hl, (fun h => by cases h), hones, ?_, fun h => by cases h⟩
      · have hi2 : i < xs.length := by simpa using hi'
        rw [List.getD_eq_getElem?_getD, hus i hi2]
        simpa [ofCs] using (hxs i hi2).2.2.1.1
      · rcases Nat.eq_zero_or_pos len with h0 | h0
        · left
          have : xs = [] := List.length_eq_zero_iff.1 (by omega)
          subst this
          rfl
        · right
          have key : ∀ i (hi : i < xs.length) r v, (xs[i].2)[r]? = some v → w.cell? ((a.add (i * st)).add r) = some v := fun i hi r v hv => by
            obtain ⟨_, h1, _, hl⟩ := hxs i hi
            obtain ⟨_, hlen', hat⟩ := World.cells?_some h1
            have hr : r < P.cellsOf e := by have := (List.getElem?_eq_some_iff.1 hv).1; omega
            have := (hat r hr).trans hv
            rw [hc] at this
            exact this
          have hspot : a.spot = none := by
            obtain ⟨_, _, _, hl0⟩ := hxs 0 (by omega)
            have hv := key 0 (by omega) 0 _ (List.getElem?_eq_getElem (by omega))
            have := World.cell?_spot hv
            simpa [Addr.add] using this
          have hblk : a.block < w.heap.size := by
            obtain ⟨_, _, _, hl0⟩ := hxs 0 (by omega)
            have hv := key 0 (by omega) 0 _ (List.getElem?_eq_getElem (by omega))
            simp only [Nat.zero_mul, Addr.add, if_true] at hv
            rcases Nat.lt_or_ge a.block w.heap.size with h' | h'
            · exact h'
            · simp [World.cell?, Array.getElem?_eq_none h'] at hv
          refine ⟨a, rfl, hspot, hblk, fun j v hj => ?_⟩
          have hjl : j < len * st := by
            have := (List.getElem?_eq_some_iff.1 hj).1
            rw [fl_len hones, List.length_map, hxl] at this
            exact this
          have hi2 : j / st < xs.length := by rw [hxl]; exact Nat.div_lt_of_lt_mul (by rw [Nat.mul_comm]; exact hjl)
          obtain ⟨rr, hsp⟩ := fl_split hones (hus (j / st) hi2)
          obtain ⟨_, _, hk, hl2⟩ := hxs (j / st) hi2
          have hjj : (j / st) * st + j % st = j := by rw [Nat.mul_comm]; exact Nat.div_add_mod j st
          have h2 : ((fl (xs.map fun y => ofCs (enc y.1) y.2)).drop ((j / st) * st))[j % st]? = some v := by rw [List.getElem?_drop, hjj]; exact hj
          rw [hsp, ofCs_cells hk, List.getElem?_append_left (by rw [hl2]; exact Nat.mod_lt _ hst)] at h2
          have h3 := key (j / st) hi2 (j % st) v h2
          obtain ⟨bk, of, sp⟩ := a
          obtain rfl : sp = none := hspot
          rw [Addr.add_lit, Addr.add_lit, Nat.add_assoc, hjj] at h3
          exact h3
theorem AOp.map {α β : Type} {sz : Nat} {enc : α → AV} {ok : α → Prop} (h : AOp P t sz enc ok) {enc' : β → AV} {ok' : β → Prop} (f : α → β) (he : ∀ a, enc' (f a) = enc a) (ho : ∀ a, ok a → ok' (f a)) : AOp P t sz enc' ok' := by
  constructor
  intro H en w spare held fuel cs x hx
  obtain ⟨a, h1, h2, h3⟩ := h.out hx
  exact ⟨f a, ho a h1, by rw [he]; exact h2, h3⟩
/-- The fields of a struct from an offset on, each of one cell. -/
structure AOpF {α : Type} (P : Program) (fs : List Field) (off n : Nat) (encs : α → List AV) (ok : α → Prop) : Prop where
  out : ∀ {H : Type} {en : TypeId × Value → H} {w : World} {spare : Nat → Bool} {held : Bool} {k : Nat} {cs : List Value},
    cs.length = off + n → (∀ f ∈ fs, ∃ x, DataW.trod en P w 0 spare held k f.type ((cs.drop f.offset).take (P.cellsOf f.type)) = some x) → ∃ a, ok a ∧ VRs phi0 (held0 w) w (encs a) (cs.drop off) ∧ ∀ c ∈ cs.drop off, c.oneCell' = true
theorem aopF_nil {off : Nat} : AOpF P [] off 0 (fun _ : Unit => []) (fun _ => True) := by
  constructor
  intro H en w spare held k cs hl _
  have : cs.drop off = [] := List.drop_of_length_le (by omega)
  exact ⟨(), trivial, by rw [this]; rfl, fun c hc => by rw [this] at hc; cases hc⟩
theorem aopF_cons {α β : Type} {f : Field} {fs : List Field} {off n : Nat} {enc : α → AV} {ok : α → Prop} {encs : β → List AV} {ok' : β → Prop} (ho : f.offset = off) (hc : P.cellsOf f.type = 1) (hna : ∀ a, (match enc a with | .agg _ => false | _ => true) = true) (h : AOp P f.type 1 enc ok)
    (hr : AOpF P fs (off + 1) n encs ok') : AOpF P (f :: fs) off (n + 1) (fun x : α × β => enc x.1 :: encs x.2) (fun x => ok x.1 ∧ ok' x.2) := by
  constructor
  intro H en w spare held k cs hl hf
  obtain ⟨x, hx⟩ := hf f (by simp)
  rw [ho, hc] at hx
  obtain ⟨a, ha, hk, hk1⟩ := h.out hx
  obtain ⟨b, hb, hk', hk2⟩ := hr.out (cs := cs) (by omega) (fun f' hf' => hf f' (by simp [hf']))
  have hsplit : cs.drop off = (cs.drop off).take 1 ++ cs.drop (off + 1) := by rw [← List.drop_drop, List.take_append_drop]
  match hcs : (cs.drop off).take 1, hk1 with
  | [u], _ =>
    rw [hcs] at hk hsplit
    refine ⟨(a, b), ⟨ha, hb⟩, ?_, fun c hc' => ?_⟩
    · rw [hsplit]
      refine ⟨u, _, rfl, ?_, hk'⟩
      have h1 := hk.1
      have h2 := hna a
      cases he : enc a <;> rw [he] at h1 h2 <;> first | exact h1 | cases h2
    · rw [hsplit] at hc'
      rcases List.mem_append.1 hc' with h1 | h1
      · exact hk.2.2 c h1
      · exact hk2 c h1
theorem aop_struct {α : Type} {fs : Array Field} {sz : Nat} {encs : α → List AV} {ok : α → Prop} (ht : P.underlying t = some (.struct fs)) (hc : P.cellsOf t = sz) (h : AOpF P fs.toList 0 sz encs ok) : AOp P t sz (fun a => .agg (encs a)) ok := by
  constructor
  intro H en w spare held fuel cs x hx
  obtain ⟨xs, n, _, _, hl, hlen, hf⟩ := DataW.trod_struct ht hx
  obtain ⟨a, ha, hk, h1⟩ := h.out (H := H) (en := en) (w := w) (spare := spare) (held := held) (k := n) (cs := cs) (by omega) (fun f hmem => by
    obtain ⟨i, hi, rfl⟩ := List.getElem_of_mem hmem
    have hi' : i < fs.size := by simpa using hi
    have hx := hf i fs[i] (Array.getElem?_eq_getElem hi')
    have hlt : i < xs.length := by omega
    rw [List.getElem?_eq_getElem hlt] at hx
    have e : fs.toList[i] = fs[i] := by simp
    rw [e]
    exact ⟨_, hx⟩)
  rw [List.drop_zero] at hk h1
  exact ⟨a, ha, ⟨⟨cs, rfl, h1, hk⟩, trivial, h1⟩, by omega⟩
end
theorem rel0 (w : World) : Rel phi0 (held0 w) ⟨fun _ => False, fun _ _ => False⟩ [] 0 w :=
  ⟨fun _ _ _ _ h => (nomatch h), fun _ h => h, fun _ h => False.elim h, fun _ _ h => h, fun _ h => (nomatch h), fun _ h => (nomatch h), List.Pairwise.nil, List.Pairwise.nil, fun _ _ h => False.elim h, fun _ h => (nomatch h)⟩
/-- A law's end: true, and what lay there lies there. -/
theorem am_run {P : Program} {f : FuncId} {args : List AV} {w : World} {vs : List Value} (he : Enters P f) (h : ACalls P f args [] 0 (fun v _ _ => v = .bool true)) (hv : VRs phi0 (held0 w) w args vs) : Calls P f vs.toArray w fun e w' => e = .returned (.bool true) ∧ Below w.heap.size w w' := by
  rcases h.go _ _ _ w vs (rel0 w) hv with ⟨_, h2⟩ | ⟨v, h1, _⟩
  · refine h2.mono fun e w' hp => ?_
    cases e with
    | panicked => exact hp.elim
    | outgrown => exact hp.elim
    | returned v =>
      obtain ⟨r, o, n, φ', H', rfl, q2, _, q4⟩ := hp
      have q4 : v = .bool true := q4
      subst q4
      exact ⟨rfl, q2.os, q2.tape, q2.output, q2.size, fun k hk => q2.up.blk k hk⟩
  · rw [callFunc_enter he] at h1
    cases h1
end Go.Proofs.Ytckkcgkgfkgfdaa.AM
