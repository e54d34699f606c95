/- Words for memory: kinds of values, slices that read as lists, rows of the call's own. Plain definitions and theorems; no condition. -/
import Derived.WalkKit
import Derived.Below
import Derived.Laws.OwnMore
import Derived.Laws.AppendOwn
import Derived.Maps.AppendAt
import Derived.Deep.AppendLies
import Derived.Lib.Hide
import Derived.IntWalk
namespace Go.Proofs.Ytnodcekkbbmfnaa.K
open Go.RowKit

theorem i64_wrap_in {n : Int} (h0 : -9223372036854775808 ≤ n) (h : n ≤ 9223372036854775807) : IntKind.i64.wrap n = n := by rw [IntKind.wrap_i64]; omega
/-- A set of blocks. -/
abbrev Bl := Nat → Prop
/-- These blocks are as they were. -/
def Same (F : Bl) (w w' : World) : Prop := ∀ k, F k → w'.heap[k]? = w.heap[k]?
theorem Same.cell {F : Bl} {w w' : World} (h : Same F w w') {a : Addr} (ha : F a.block) : w'.cell? a = w.cell? a := World.cell?_of_block (h a.block ha)
theorem Same.refl (F : Bl) (w : World) : Same F w w := fun _ _ => rfl
theorem Same.trans {F : Bl} {a b c : World} (h : Same F a b) (k : Same F b c) : Same F a c := fun i hi => (k i hi).trans (h i hi)
theorem Same.less {F F' : Bl} {w w' : World} (h : Same F w w') (hf : ∀ k, F' k → F k) : Same F' w w' := fun k hk => h k (hf k hk)
theorem Same.of_below {B : Nat} {w w' : World} (h : Below B w w') : Same (fun k => k < B) w w' := h.block
theorem Same.of_below' {B : Nat} {F : Bl} {w w' : World} (h : Below B w w') (hF : ∀ k, F k → k < B) : Same F w w' := fun k hk => h.block k (hF k hk)

theorem add_add (a : Addr) (i j : Nat) : (a.add i).add j = a.add (i + j) := by
  unfold Addr.add
  by_cases hi : i = 0 <;> by_cases hj : j = 0 <;> simp [hi, hj, Nat.add_assoc]
theorem add_block (a : Addr) (n : Nat) : (a.add n).block = a.block := by unfold Addr.add; split <;> rfl

/-- How data lie in cells: so many cells, and what they hold; F: the blocks to which they lead. -/
structure Kd (α : Type) where
  sz : Nat
  K : World → Bl → α → List Value → Prop
  len : ∀ {w F x cs}, K w F x cs → cs.length = sz
  one : ∀ {w F x cs}, K w F x cs → ∀ u ∈ cs, u.oneCell' = true
  move : ∀ {w w' : World} {F : Bl} {x cs}, Same F w w' → K w F x cs → K w' F x cs
  more : ∀ {w : World} {F F' : Bl} {x cs}, (∀ k, F k → F' k) → K w F x cs → K w F' x cs
  bound : ∀ {w : World} {F : Bl} {x cs}, K w F x cs → K w (fun k => F k ∧ k < w.heap.size) x cs

/-- A slice's elements, read from an address on. -/
def Rd {α : Type} (d : Kd α) (w : World) (F : Bl) (A : Option Addr) (xs : List α) : Prop :=
  xs.length ≤ maxLen ∧ ∀ i (h : i < xs.length), ∃ ad, A = some ad ∧ F ad.block ∧ ∃ cs, d.K w F xs[i] cs ∧ ∀ j u, cs[j]? = some u → w.cell? (ad.add (i * d.sz + j)) = some u

namespace Kd
def int (k : IntKind) : Kd Int where
  sz := 1
  K := fun _ _ x cs => cs = [.int k x]
  len := by rintro _ _ _ _ rfl; rfl
  one := by rintro _ _ _ _ rfl u hu; simp at hu; subst hu; rfl
  move := fun _ h => h
  more := fun _ h => h
  bound := fun h => h
def bool : Kd Bool where
  sz := 1
  K := fun _ _ x cs => cs = [.bool x]
  len := by rintro _ _ _ _ rfl; rfl
  one := by rintro _ _ _ _ rfl u hu; simp at hu; subst hu; rfl
  move := fun _ h => h
  more := fun _ h => h
  bound := fun h => h
def str : Kd ByteArray where
  sz := 1
  K := fun _ _ x cs => cs = [.string x]
  len := by rintro _ _ _ _ rfl; rfl
  one := by rintro _ _ _ _ rfl u hu; simp at hu; subst hu; rfl
  move := fun _ h => h
  more := fun _ h => h
  bound := fun h => h
def flt : Kd Nat where
  sz := 1
  K := fun _ _ x cs => cs = [.float .f64 x]
  len := by rintro _ _ _ _ rfl; rfl
  one := by rintro _ _ _ _ rfl u hu; simp at hu; subst hu; rfl
  move := fun _ h => h
  more := fun _ h => h
  bound := fun h => h
def pair {α β : Type} (d : Kd α) (e : Kd β) : Kd (α × β) where
  sz := d.sz + e.sz
  K := fun w F x cs => ∃ c1 c2, cs = c1 ++ c2 ∧ d.K w F x.1 c1 ∧ e.K w F x.2 c2
  len := by rintro _ _ _ _ ⟨c1, c2, rfl, h1, h2⟩; rw [List.length_append, d.len h1, e.len h2]
  one := by
    rintro _ _ _ _ ⟨c1, c2, rfl, h1, h2⟩ u hu
    rcases List.mem_append.1 hu with h | h
    · exact d.one h1 u h
    · exact e.one h2 u h
  move := by rintro _ _ _ _ _ hs ⟨c1, c2, rfl, h1, h2⟩; exact ⟨c1, c2, rfl, d.move hs h1, e.move hs h2⟩
  more := by rintro _ _ _ _ _ hs ⟨c1, c2, rfl, h1, h2⟩; exact ⟨c1, c2, rfl, d.more hs h1, e.more hs h2⟩
  bound := by rintro _ _ _ _ ⟨c1, c2, rfl, h1, h2⟩; exact ⟨c1, c2, rfl, d.bound h1, e.bound h2⟩
def iso {α β : Type} (d : Kd β) (f : α → β) : Kd α where
  sz := d.sz
  K := fun w F x cs => d.K w F (f x) cs
  len := fun h => d.len h
  one := fun h => d.one h
  move := fun hs h => d.move hs h
  more := fun hs h => d.more hs h
  bound := fun h => d.bound h
end Kd

section
variable {α : Type} {d : Kd α} {w w' : World} {F F' : Bl} {A : Option Addr} {xs : List α}
theorem Rd.move (hs : Same F w w') (h : Rd d w F A xs) : Rd d w' F A xs := by
  refine ⟨h.1, fun i hi => ?_⟩
  obtain ⟨ad, e, hF, cs, hK, hc⟩ := h.2 i hi
  exact ⟨ad, e, hF, cs, d.move hs hK, fun j u hu => (hs.cell (by rw [add_block]; exact hF)).trans (hc j u hu)⟩
theorem Rd.more (hf : ∀ k, F k → F' k) (h : Rd d w F A xs) : Rd d w F' A xs := by
  refine ⟨h.1, fun i hi => ?_⟩
  obtain ⟨ad, e, hF, cs, hK, hc⟩ := h.2 i hi
  exact ⟨ad, e, hf _ hF, cs, d.more hf hK, hc⟩
theorem Rd.nil (d : Kd α) (w : World) (F : Bl) (A : Option Addr) : Rd d w F A [] := ⟨by simp [maxLen], fun _ h => absurd h (by simp)⟩
/-- The element i: its cells. -/
theorem Rd.at (h : Rd d w F A xs) (i : Nat) (hi : i < xs.length) : ∃ ad, A = some ad ∧ F ad.block ∧ ∃ cs, d.K w F xs[i] cs ∧ ∀ j u, cs[j]? = some u → w.cell? (ad.add (i * d.sz + j)) = some u := h.2 i hi
theorem Rd.len (h : Rd d w F A xs) : (xs.length : Int) ≤ 9223372036854775807 := by have := h.1; simp only [maxLen] at this; omega
theorem Rd.cut (h : Rd d w F A xs) (k n cap : Nat) (hn : n ≤ xs.length) (hk : k ≤ n) (hc : n ≤ cap) : Rd d w F (if cap = k then A else A.map (·.add (k * d.sz))) ((xs.take n).drop k) := by
  have hl : ((xs.take n).drop k).length = n - k := by rw [List.length_drop, List.length_take, Nat.min_eq_left hn]
  refine ⟨by rw [hl]; exact Nat.le_trans (Nat.sub_le _ _) (Nat.le_trans hn h.1), fun i hi => ?_⟩
  rw [hl] at hi
  obtain ⟨ad, rfl, hF, cs, hK, hcc⟩ := h.at (k + i) (by omega)
  rw [if_neg (by omega)]
  refine ⟨ad.add (k * d.sz), rfl, by rw [add_block]; exact hF, cs, ?_, fun j u hu => ?_⟩
  · have e : ((xs.take n).drop k)[i]'(by rw [hl]; exact hi) = xs[k + i]'(by omega) := by simp
    rw [e]; exact hK
  · rw [← hcc j u hu, add_add, Nat.add_mul, Nat.add_assoc]
theorem Rd.take (h : Rd d w F A xs) (n : Nat) : Rd d w F A (xs.take n) := by
  refine ⟨Nat.le_trans (by rw [List.length_take]; exact Nat.min_le_right _ _) h.1, fun i hi => ?_⟩
  have hi' : i < xs.length := by rw [List.length_take] at hi; omega
  obtain ⟨ad, e, hF, cs, hK, hc⟩ := h.at i hi'
  refine ⟨ad, e, hF, cs, ?_, hc⟩
  rw [List.getElem_take]; exact hK
end

theorem cell_lt {w : World} {a : Addr} {v : Value} (h : w.cell? a = some v) : a.block < w.heap.size := World.block_lt_of_cell? w a h

theorem Rd.bound {α : Type} {d : Kd α} {w : World} {F : Bl} {A : Option Addr} {xs : List α} (hsz : 0 < d.sz) (h : Rd d w F A xs) : Rd d w (fun k => F k ∧ k < w.heap.size) A xs := by
  refine ⟨h.1, fun i hi => ?_⟩
  obtain ⟨ad, e, hF, cs, hK, hc⟩ := h.2 i hi
  have hl := d.len hK
  have h0 : cs[0]? = some (cs[0]'(by omega)) := List.getElem?_eq_getElem (by omega)
  have hb := cell_lt (hc 0 _ h0)
  rw [add_block] at hb
  exact ⟨ad, e, ⟨hF, hb⟩, cs, d.bound hK, hc⟩

/-- A slice as an element: one cell. (of: its elements' kind, which has cells.) -/
def Kd.slice {α : Type} (d : Kd α) (hsz : 0 < d.sz) : Kd (List α) where
  sz := 1
  K := fun w F xs cs => ∃ A c, cs = [.slice A xs.length c] ∧ xs.length ≤ c ∧ Rd d w F A xs
  len := by rintro _ _ _ _ ⟨A, c, rfl, _⟩; rfl
  one := by rintro _ _ _ _ ⟨A, c, rfl, _⟩ u hu; simp at hu; subst hu; rfl
  move := by rintro _ _ _ _ _ hs ⟨A, c, rfl, hc, h⟩; exact ⟨A, c, rfl, hc, h.move hs⟩
  more := by rintro _ _ _ _ _ hs ⟨A, c, rfl, hc, h⟩; exact ⟨A, c, rfl, hc, h.more hs⟩
  bound := by rintro _ _ _ _ ⟨A, c, rfl, hc, h⟩; exact ⟨A, c, rfl, hc, h.bound hsz⟩

/-- Elements in a row of cells, one behind the other. -/
def Reps {α : Type} (R : α → List Value → Prop) (sz : Nat) (xs : List α) (cells : List Value) : Prop :=
  cells.length = xs.length * sz ∧ ∀ i (h : i < xs.length), R xs[i] ((cells.drop (i * sz)).take sz)
theorem Reps.nil {α : Type} (R : α → List Value → Prop) (sz : Nat) : Reps R sz [] [] := ⟨by simp, fun _ h => absurd h (by simp)⟩
theorem Reps.snoc {α : Type} {R : α → List Value → Prop} {sz : Nat} {xs : List α} {cells cs : List Value} {x : α} (h : Reps R sz xs cells) (hx : R x cs) (hl : cs.length = sz) : Reps R sz (xs ++ [x]) (cells ++ cs) := by
  refine ⟨by simp [h.1, hl, Nat.add_mul], fun i hi => ?_⟩
  have hxl := h.1
  by_cases hlt : i < xs.length
  · have e : (xs ++ [x])[i]'hi = xs[i] := by simp [hlt]
    rw [e]
    have hle : i * sz + sz ≤ xs.length * sz := by rw [← Nat.succ_mul]; exact Nat.mul_le_mul_right _ hlt
    rw [List.drop_append_of_le_length (by omega), List.take_append_of_le_length (by rw [List.length_drop]; omega)]
    exact h.2 i hlt
  · have hi' : i = xs.length := by simp at hi; omega
    subst hi'
    have e : (xs ++ [x])[xs.length]'hi = x := by simp
    rw [e, ← hxl, List.drop_left, ← hl, List.take_length]
    exact hx
theorem Reps.imp {α : Type} {R R' : α → List Value → Prop} {sz : Nat} {xs : List α} {cells : List Value} (h : Reps R sz xs cells) (hi : ∀ x cs, R x cs → R' x cs) : Reps R' sz xs cells := ⟨h.1, fun i hi' => hi _ _ (h.2 i hi')⟩
theorem Reps.app {α : Type} {R : α → List Value → Prop} {sz : Nat} {xs ys : List α} {cells ds : List Value} (h : Reps R sz xs cells) (h' : Reps R sz ys ds) : Reps R sz (xs ++ ys) (cells ++ ds) := by
  have hxl := h.1
  refine ⟨by simp [h.1, h'.1, Nat.add_mul], fun i hi => ?_⟩
  by_cases hlt : i < xs.length
  · have e : (xs ++ ys)[i]'hi = xs[i] := by simp [hlt]
    rw [e]
    have hle : i * sz + sz ≤ xs.length * sz := by rw [← Nat.succ_mul]; exact Nat.mul_le_mul_right _ hlt
    rw [List.drop_append_of_le_length (by omega), List.take_append_of_le_length (by rw [List.length_drop]; omega)]
    exact h.2 i hlt
  · have hi' : i - xs.length < ys.length := by simp at hi; omega
    have e : (xs ++ ys)[i]'hi = ys[i - xs.length] := by simp [List.getElem_append, hlt]
    rw [e]
    have e2 : i * sz = cells.length + (i - xs.length) * sz := by
      rw [hxl, ← Nat.add_mul]; congr 1; omega
    rw [e2, List.drop_append]
    have e3 : cells.length + (i - xs.length) * sz - cells.length = (i - xs.length) * sz := by omega
    rw [List.drop_eq_nil_of_le (by omega), List.nil_append, e3]
    exact h'.2 _ hi'

/-- A row of the call's own, from block 'base' on: it may be appended to, and stored into; what its elements lead to lies in F, and not in the row itself. -/
def Own {α : Type} (d : Kd α) (e : Nat) (w : World) (base : Nat) (F : Bl) (v : Value) (xs : List α) : Prop :=
  ∃ inner, w.ownsRow base e d.sz v xs.length inner ∧ Reps (d.K w (fun k => F k ∧ some k ≠ v.ownBlock)) d.sz xs inner

section
variable {α : Type} {d : Kd α} {e : Nat} {w w' : World} {base : Nat} {F F' : Bl} {v : Value} {xs : List α}
theorem Own.nil (d : Kd α) (e : Nat) (w : World) (base : Nat) (F : Bl) : Own d e w base F (.slice none 0 0) [] := ⟨[], World.ownsRow_nil _ _ _ _, Reps.nil _ _⟩
theorem Own.more (h : Own d e w base F v xs) (hf : ∀ k, F k → F' k) : Own d e w base F' v xs := by
  obtain ⟨inner, ho, hr⟩ := h
  exact ⟨inner, ho, hr.imp (fun _ _ hk => d.more (fun k hk => ⟨hf k hk.1, hk.2⟩) hk)⟩
theorem Own.lower {base' : Nat} (h : Own d e w base F v xs) (hb : base' ≤ base) : Own d e w base' F v xs := by
  obtain ⟨inner, ho, hr⟩ := h
  refine ⟨inner, ⟨ho.1, ?_⟩, hr⟩
  rcases ho.2 with h2 | ⟨g, cap, cur, rfl, hg, rest⟩
  · exact .inl h2
  · exact .inr ⟨g, cap, cur, rfl, by omega, rest⟩
/-- The row stays, and what it leads to. -/
theorem Own.move (h : Own d e w base F v xs) (hF : Same F w w') (hv : ∀ k, v.ownBlock = some k → w'.heap[k]? = w.heap[k]?) : Own d e w' base F v xs := by
  obtain ⟨inner, ho, hr⟩ := h
  refine ⟨inner, ⟨ho.1, ?_⟩, hr.imp (fun _ _ hk => d.move (hF.less (fun k hk => hk.1)) hk)⟩
  rcases ho.2 with h2 | ⟨g, cap, cur, rfl, hg, hh, rest⟩
  · exact .inl h2
  · exact .inr ⟨g, cap, cur, rfl, hg, (hv g rfl).trans hh, rest⟩
theorem Own.lt (h : Own d e w base F v xs) : ∀ k, v.ownBlock = some k → base ≤ k ∧ k < w.heap.size := by
  obtain ⟨inner, ho, hr⟩ := h
  exact ho.lt
theorem Own.slice (h : Own d e w base F v xs) : ∃ A c, v = .slice A xs.length c ∧ xs.length ≤ c := by
  obtain ⟨inner, ho, hr⟩ := h
  rcases ho.2 with ⟨rfl, h2⟩ | ⟨g, cap, cur, rfl, hg, hh, hle, rest⟩
  · exact ⟨none, 0, by rw [h2], by omega⟩
  · exact ⟨_, cap, rfl, hle⟩
theorem Own.below (h : Own d e w base F v xs) (hb : Below w.heap.size w w') (hF : ∀ k, F k → k < w.heap.size) : Own d e w' base F v xs :=
  h.move (Same.of_below' hb hF) (fun k hk => hb.block k (h.lt k hk).2)
/-- It is read: what it leads to, and the row itself. -/
theorem Own.reads (h : Own d e w base F v xs) : ∃ A c, v = .slice A xs.length c ∧ xs.length ≤ c ∧ Rd d w (fun k => F k ∨ some k = v.ownBlock) A xs := by
  obtain ⟨inner, ho, hr⟩ := h
  rcases ho.2 with ⟨rfl, h2⟩ | ⟨g, cap, cur, rfl, hg, hh, hle, hcm, hcs, htake⟩
  · have hx : xs = [] := List.eq_nil_of_length_eq_zero h2
    subst hx
    exact ⟨none, 0, rfl, Nat.le_refl _, Rd.nil _ _ _ _⟩
  · refine ⟨_, cap, rfl, hle, Nat.le_trans hle hcm, fun i hi => ⟨⟨g, 0, none⟩, rfl, .inr rfl, _, d.more (fun k hk => .inl hk.1) (hr.2 i hi), fun j u hu => ?_⟩⟩
    have hl := hr.1
    have hjs : j < d.sz := by
      have := (List.getElem?_eq_some_iff.1 hu).1
      rw [List.length_take] at this; omega
    have hle2 : i * d.sz + d.sz ≤ xs.length * d.sz := by rw [← Nat.succ_mul]; exact Nat.mul_le_mul_right _ hi
    rw [List.getElem?_take, if_pos hjs, List.getElem?_drop, ← htake, List.getElem?_take, if_pos (by omega)] at hu
    have ha : (⟨g, 0, none⟩ : Addr).add (i * d.sz + j) = ⟨g, i * d.sz + j, none⟩ := by
      unfold Addr.add; split <;> simp_all
    rw [ha]
    simp only [World.cell?, hh]
    simpa using hu
/-- The same of a slice written out. -/
theorem Own.rd {A : Option Addr} {n c : Nat} (h : Own d e w base F (.slice A n c) xs) : n = xs.length ∧ Rd d w (fun k => F k ∨ (base ≤ k ∧ k < w.heap.size)) A xs := by
  obtain ⟨A', c', hv, hc, hr⟩ := h.reads
  injection hv with h1 h2 h3
  subst h1
  refine ⟨h2, hr.more fun k hk => ?_⟩
  rcases hk with hk | hk
  · exact .inl hk
  · exact .inr (h.lt k hk.symm)
/-- Which blocks a row that is read by somebody else can't be: those of another elements' type. -/
theorem Own.at_block (h : Own d e w base F v xs) : ∀ k, v.ownBlock = some k → ∃ cells, w.heap[k]? = some (.cells cells e (0, 0)) := by
  obtain ⟨inner, ho, hr⟩ := h
  intro k hk
  rcases ho.2 with ⟨rfl, h2⟩ | ⟨g, cap, cur, rfl, hg, hh, _⟩
  · simp [Value.ownBlock] at hk
  · simp [Value.ownBlock] at hk; subst hk; exact ⟨cur, hh⟩
end
end Go.Proofs.Ytnodcekkbbmfnaa.K
