/- A law's arguments, read as data, lie in memory as the printed kinds of values say. Plain theorems; no condition. -/
import Derived.ChangeArms
import Derived.ChangeOld
import Derived.DataReads
import Derived.Deep.Slices
import Derived.OpenShut
import Derived.Test.YtnodcekkbbmfnaaVCrB
namespace Go.Proofs.Ytnodcekkbbmfnaa.Op
open Go.RowKit Go.Proofs.YtnodcekkbbmfnaaW.PrintWords Go.Proofs.YtnodcekkbbmfnaaW.PrintLast Go.Proofs.YtnodcekkbbmfnaaW.PrintMore
set_option linter.unusedVariables false

theorem add_add (a : Addr) (i j : Nat) : (a.add i).add j = a.add (i + j) := by
  unfold Addr.add
  by_cases hi : i = 0 <;> by_cases hj : j = 0 <;> simp [hi, hj, Nat.add_assoc]
/-- Whatever reads as data at type t lies as the kind d says, and is as 'ok' says. -/
structure Opens {α : Type} (P : Program) (t : TypeId) (d : Kd α) (ok : α → Prop) : Prop where
  out : ∀ {H : Type} {enc : TypeId × Value → H} {w : World} {spare : Nat → Bool} {held : Bool} {fuel : Nat} {cs : List Value} {x : DataW H × List MemPlace},
    DataW.trod enc P w 0 spare held fuel t cs = some x → ∃ a, ok a ∧ d.K w a cs

section
variable {P : Program} {t : TypeId}
theorem opens_int {k : IntKind} (ht : P.underlying t = some (.int k)) : Opens P t (Kd.int k) (fun n => (Lit.int k n).wf = true) := by
  constructor
  intro H enc w spare held fuel cs x h
  obtain ⟨n, rfl, _, hw⟩ := DataW.trod_int ht h
  exact ⟨n, hw, rfl⟩
theorem opens_bool (ht : P.underlying t = some .bool) : Opens P t Kd.bool (fun _ => True) := by
  constructor
  intro H enc w spare held fuel cs x h
  obtain ⟨n, rfl, _⟩ := DataW.trod_bool ht h
  exact ⟨n, trivial, rfl⟩
theorem opens_str (ht : P.underlying t = some .string) : Opens P t Kd.string (fun s => s.size ≤ maxLen) := by
  constructor
  intro H enc w spare held fuel cs x h
  obtain ⟨n, rfl, _, hw⟩ := DataW.trod_string ht h
  exact ⟨n, hw, rfl⟩
theorem trod_flt {H : Type} {enc : TypeId × Value → H} {w : World} {spare : Nat → Bool} {held : Bool} {fuel : Nat} {cs : List Value} {x : DataW H × List MemPlace} (ht : P.underlying t = some (.float .f64))
    (h : DataW.trod enc P w 0 spare held fuel t cs = some x) : ∃ b : Nat, cs = [.float .f64 b] ∧ (Lit.float .f64 b).wf = true := by
  cases fuel with
  | zero => simp [DataW.trod] at h
  | succ n =>
    unfold DataW.trod at h
    rw [ht] at h
    match cs, h with
    | [.float k b], h =>
      simp only at h
      split at h
      · rename_i hk
        obtain ⟨rfl, hw⟩ := hk
        exact ⟨b, rfl, hw⟩
      · cases h
theorem opens_flt (ht : P.underlying t = some (.float .f64)) : Opens P t (Kd.scalar (Value.float .f64) (fun _ => rfl)) (fun b => b < 2 ^ 64) := by
  constructor
  intro H enc w spare held fuel cs x h
  obtain ⟨b, rfl, hw⟩ := trod_flt ht h
  exact ⟨b, of_decide_eq_true hw, rfl⟩
theorem opens_iso {α β : Type} {d : Kd β} {ok : β → Prop} (f : α → β) (g : β → α) (hfg : ∀ b, f (g b) = b) (h : Opens P t d ok) : Opens P t (Kd.iso d f) (fun a => ok (f a)) := by
  constructor
  intro H enc w spare held fuel cs x hx
  obtain ⟨a, ha, hk⟩ := h.out hx
  refine ⟨g a, by show ok (f (g a)); rw [hfg]; exact ha, ?_⟩
  show d.K w (f (g a)) cs
  rw [hfg]; exact hk

theorem choose_list {α : Type} (z : α) (Q : Nat → α → Prop) : ∀ n, (∀ i, i < n → ∃ a, Q i a) → ∃ xs : List α, xs.length = n ∧ ∀ i (h : i < xs.length), Q i xs[i]
  | 0, _ => ⟨[], rfl, fun _ h => absurd h (by simp)⟩
  | n + 1, h => by
    obtain ⟨xs, hl, hx⟩ := choose_list z Q n (fun i hi => h i (by omega))
    obtain ⟨a, ha⟩ := h n (by omega)
    refine ⟨xs ++ [a], by simp [hl], fun i hi => ?_⟩
    by_cases hlt : i < xs.length
    · have e : (xs ++ [a])[i]'hi = xs[i] := by simp [hlt]
      rw [e]; exact hx i hlt
    · have hi' : i = n := by simp at hi; omega
      subst hi'
      have e : (xs ++ [a])[i]'hi = a := by simp [← hl]
      rw [e]; exact ha

theorem opens_slice {α : Type} (z : α) {e : TypeId} {d : Kd α} {ok : α → Prop} (ht : P.underlying t = some (.slice e)) (hc : P.cellsOf e = d.sz) (h : Opens P e d ok) :
    Opens P t (Kd.slice e d) (fun xs => xs.length ≤ maxLen ∧ ∀ x ∈ xs, ok x) := by
  constructor
  intro H enc w spare held fuel cs x hx
  rcases Go.Deep.open_slice ht hx with ⟨rfl, _⟩ | ⟨a, len, cap, m, n, D, Pl, rfl, hb, hl, hm, hmm, _, hi⟩
  · exact ⟨[], ⟨Nat.zero_le _, fun x hx => by cases hx⟩, none, 0, rfl, Nat.le_refl _, rfl, Nat.zero_le _, fun h => absurd h (Nat.lt_irrefl 0)⟩
  · have hlm : len ≤ m := by rw [hmm]; split <;> omega
    obtain ⟨xs, hxl, hxs⟩ := choose_list z (fun i x => ok x ∧ ∃ cs', w.cells? 0 (a.add (i * P.cellsOf e)) (P.cellsOf e) = some cs' ∧ d.K w x cs') len (fun i hlt => by
      obtain ⟨cs', h1, h2⟩ := hi i (by omega)
      obtain ⟨y, hy, hk⟩ := h.out h2
      exact ⟨y, hy, cs', h1, hk⟩)
    have hlen : xs.length ≤ maxLen := by omega
    refine ⟨xs, ⟨hlen, fun x hx => ?_⟩, some a, cap, by rw [hxl], by omega, rfl, by unfold maxLen at hlen; exact hlen, fun _ => ⟨a, rfl, fun j p hp => ?_⟩⟩
    · obtain ⟨i, hi', rfl⟩ := List.getElem_of_mem hx
      exact (hxs i hi').1
    · obtain ⟨hj, rfl⟩ := List.getElem?_eq_some_iff.1 hp
      obtain ⟨_, cs', h1, hk⟩ := hxs j hj
      obtain ⟨_, hlen', hat⟩ := World.cells?_some h1
      rw [hc] at hlen' hat
      refine ⟨cs', hlen', hk, fun i u hu => ?_⟩
      have hj' : i < d.sz := by have := (List.getElem?_eq_some_iff.1 hu).1; omega
      rw [← add_add]
      exact (hat i hj').trans hu

/-- The fields of a struct from an offset on. -/
structure OpensF {α : Type} (P : Program) (fs : List Field) (off : Nat) (d : Kd α) (ok : α → Prop) : Prop where
  out : ∀ {H : Type} {enc : TypeId × Value → H} {w : World} {spare : Nat → Bool} {held : Bool} {n : Nat} {cs : List Value},
    cs.length = off + d.sz → (∀ f ∈ fs, ∃ x, DataW.trod enc P w 0 spare held n f.type ((cs.drop f.offset).take (P.cellsOf f.type)) = some x) → ∃ a, ok a ∧ d.K w a (cs.drop off)
theorem opensF_one {α : Type} {f : Field} {off : Nat} {d : Kd α} {ok : α → Prop} (ho : f.offset = off) (hc : P.cellsOf f.type = d.sz) (h : Opens P f.type d ok) : OpensF P [f] off d ok := by
  constructor
  intro H enc w spare held n cs hl hf
  obtain ⟨x, hx⟩ := hf f (by simp)
  rw [ho, hc, List.take_of_length_le (by rw [List.length_drop]; omega)] at hx
  exact h.out hx
theorem opensF_cons {α β : Type} {f : Field} {fs : List Field} {off : Nat} {d : Kd α} {e : Kd β} {ok : α → Prop} {ok' : β → Prop} (ho : f.offset = off) (hc : P.cellsOf f.type = d.sz) (h : Opens P f.type d ok)
    (hr : OpensF P fs (off + d.sz) e ok') : OpensF P (f :: fs) off (Kd.pair d e) (fun x => ok x.1 ∧ ok' x.2) := by
  constructor
  intro H enc w spare held n cs hl hf
  have hl' : cs.length = off + (d.sz + e.sz) := hl
  obtain ⟨x, hx⟩ := hf f (by simp)
  rw [ho, hc] at hx
  obtain ⟨a, ha, hk⟩ := h.out hx
  obtain ⟨b, hb, hk'⟩ := hr.out (cs := cs) (by omega) (fun f' hf' => hf f' (by simp [hf']))
  refine ⟨(a, b), ⟨ha, hb⟩, _, _, ?_, hk, hk'⟩
  rw [← List.drop_drop, List.take_append_drop]
theorem opens_struct {α : Type} {fs : Array Field} {d : Kd α} {ok : α → Prop} (ht : P.underlying t = some (.struct fs)) (hc : P.cellsOf t = d.sz) (h : OpensF P fs.toList 0 d ok) : Opens P t d ok := by
  constructor
  intro H enc w spare held fuel cs x hx
  obtain ⟨xs, n, _, _, hl, hlen, hf⟩ := DataW.trod_struct ht hx
  obtain ⟨a, ha, hk⟩ := h.out (H := H) (enc := enc) (w := w) (spare := spare) (held := held) (n := n) (cs := cs) (by omega) (fun f hmem => by
    obtain ⟨i, hi, rfl⟩ := List.getElem_of_mem hmem
    have hi' : i < fs.size := by simpa using hi
    have hx := hf i fs[i] (Array.getElem?_eq_getElem hi')
    have hlt : i < xs.length := by omega
    rw [List.getElem?_eq_getElem hlt] at hx
    have e : fs.toList[i] = fs[i] := by simp
    rw [e]
    exact ⟨_, hx⟩)
  rw [List.drop_zero] at hk
  exact ⟨a, ha, hk⟩
end
end Go.Proofs.Ytnodcekkbbmfnaa.Op
