/- What makes an object, writes one, appends: over an abstract memory, and in a world. Plain laws; no condition. -/
import Derived.Test.YtckkcgkgfkgfdaaAmG
import Derived.Laws.CopyRow
import Derived.Room.AppendOwn
import Derived.Great.BuildSlice
namespace Go.Proofs.Ytckkcgkgfkgfdaa.AM
universe u
/-- A world behind another, at a judgement's end. -/
structure Ext (φ : Phi) (H : Nat → Prop) (F : Fr) (nx : Nat) (w : World) (φ' : Phi) (H' : Nat → Prop) (nx' : Nat) (w' : World) : Prop where
  up : Up φ H w φ' H' w'
  nxle : nx ≤ nx'
  old : ∀ ix bs, bs < nx → φ' ix bs = φ ix bs
  frm : ∀ b, F b → w'.heap[b]? = w.heap[b]?
  size : w.heap.size ≤ w'.heap.size
  os : w'.os = w.os
  tape : w'.tape = w.tape
  output : w'.output = w.output
theorem Ext.refl (φ H F nx w) : Ext φ H F nx w φ H nx w := ⟨Up.refl _ _ _, Nat.le_refl _, fun _ _ _ => rfl, fun _ _ => rfl, Nat.le_refl _, rfl, rfl, rfl⟩
theorem Ext.trans {φ H F nx w φ' H' nx' w' φ'' H'' nx'' w''} (h : Ext φ H F nx w φ' H' nx' w') (k : Ext φ' H' F nx' w' φ'' H'' nx'' w'') : Ext φ H F nx w φ'' H'' nx'' w'' :=
  ⟨h.up.trans k.up, Nat.le_trans h.nxle k.nxle, fun ix bs hb => (k.old ix bs (Nat.lt_of_lt_of_le hb h.nxle)).trans (h.old ix bs hb), fun b hb => (k.frm b hb).trans (h.frm b hb), Nat.le_trans h.size k.size, k.os.trans h.os, k.tape.trans h.tape, k.output.trans h.output⟩
section
variable {φ : Phi} {H : Nat → Prop} {F : Fr} {w : World} {ob : List Ent} {nx : Nat} {P : Program} {T : Tab}
theorem ObR.up {φ' : Phi} {H' : Nat → Prop} {w' : World} (hu : Up φ H w φ' H' w') {o : Ob} {b k : Nat} (h : ObR φ H w o b k) (hb : w'.heap[b]? = w.heap[b]?) : ObR φ' H' w' o b k := by
  cases o with
  | box e cells =>
    obtain ⟨pre, us, rest, h1, h2, h3, h4⟩ := h
    exact ⟨pre, us, rest, by rw [hb]; exact h1, h2, hu.vrs _ _ h3, h4⟩
  | row e st c =>
    obtain ⟨els, pre, us, rest, h0, h1, h2, h3, h4⟩ := h
    exact ⟨els, pre, us, rest, h0, by rw [hb]; exact h1, h2, hu.vrs _ _ h3, h4⟩
def upd (φ : Phi) (ix bs : Nat) (x : Nat × Nat) : Phi := fun i b => if i = ix ∧ b = bs then some x else φ i b
theorem upd_self (φ : Phi) (ix bs : Nat) (x : Nat × Nat) : upd φ ix bs x ix bs = some x := by simp [upd]
theorem upd_old (φ : Phi) (ix bs : Nat) (x : Nat × Nat) (i b : Nat) (h : b ≠ bs) : upd φ ix bs x i b = φ i b := by simp [upd, h]
/-- The world with a new block. -/
theorem Rel.ext_alloc (hR : Rel φ H F ob nx w) (ix : Nat) (o : Obj) : Ext φ H F nx w (upd φ ix nx (w.heap.size, 0)) H (nx + 1) (w.alloc o) := by
  have hph : ∀ i b x, φ i b = some x → upd φ ix nx (w.heap.size, 0) i b = some x := fun i b x h => by
    have := (hR.lt i b x.1 x.2 (by simpa using h)).2
    rw [upd_old _ _ _ _ _ _ (by omega)]; exact h
  have hblk : ∀ k, k < w.heap.size → (w.alloc o).heap[k]? = w.heap[k]? := fun k hk => Go.RowKit.Below.heap_alloc w o k hk
  have hlt : ∀ k T n, w.shape? k = some (T, n) → k < w.heap.size := fun k T n h => by
    rcases Nat.lt_or_ge k w.heap.size with h' | h'
    · exact h'
    · simp [World.shape?, Array.getElem?_eq_none h'] at h
  refine ⟨⟨hph, fun _ h => h, fun b hb => hblk b (hR.hlt b hb), fun b T n h => ?_, fun b T n h hf k => ?_⟩, Nat.le_succ _, fun i b hb => upd_old _ _ _ _ _ _ (by omega), fun b hb => hblk b (hR.flt b hb), by simp, rfl, rfl, rfl⟩
  · rw [World.shape?, hblk b (hlt b T n h)]; exact h
  · rw [World.frozen?_of_block (w := w) (a := ⟨b, k, none⟩) (hblk b (hlt b T n h))]; exact hf k
/-- A new object. -/
theorem Rel.alloc (hR : Rel φ H F ob nx w) (ix : Nat) {c : Array Value} {e : TypeId} {o : Ob} (ho : ∀ φ' H', Up φ H w φ' H' (w.alloc (.cells c e)) → ObR φ' H' (w.alloc (.cells c e)) o w.heap.size 0) :
    Rel (upd φ ix nx (w.heap.size, 0)) H F (⟨ix, nx, o⟩ :: ob) (nx + 1) (w.alloc (.cells c e)) := by
  have hx := hR.ext_alloc ix (.cells c e)
  have hsz : (w.alloc (.cells c e)).heap.size = w.heap.size + 1 := by simp
  have hφ : ∀ i b x y, upd φ ix nx (w.heap.size, 0) i b = some (x, y) → (i = ix ∧ b = nx ∧ x = w.heap.size ∧ y = 0) ∨ φ i b = some (x, y) := fun i b x y h => by
    unfold upd at h
    split at h
    · rename_i hc; cases h; exact .inl ⟨hc.1, hc.2, rfl, rfl⟩
    · exact .inr h
  have hne : ∀ x ∈ ob, ∀ b y, upd φ ix nx (w.heap.size, 0) x.ix x.bs = some (b, y) → φ x.ix x.bs = some (b, y) := fun x hm b y h => by
    rcases hφ _ _ _ _ h with ⟨_, h2, _⟩ | h2
    · have := hR.nb x hm; omega
    · exact h2
  refine ⟨fun i b x y h => ?_, fun b hb => by rw [hsz]; have := hR.hlt b hb; omega, fun b hb => by rw [hsz]; have := hR.flt b hb; omega, hR.hf, fun x hx' b y h => ?_, fun x hx' => ?_, List.Pairwise.cons (fun x hm => .inr (by have := hR.nb x hm; simp only; omega)) hR.nd, List.Pairwise.cons (fun x hm b y b' y' h h' => ?_) (hR.inj.imp_of_mem fun {a c} ha hc hac b y b' y' h h' => ?_), ⟨fun i b h => Nat.lt_succ_of_lt (hR.fnm.1 i b h), fun x hx h => by
    rcases List.mem_cons.1 hx with rfl | hx
    · have := hR.fnm.1 _ _ h; simp only at this; omega
    · exact hR.fnm.2 x hx h⟩⟩
  · rw [hsz]
    rcases hφ _ _ _ _ h with ⟨_, h2, h3, _⟩ | h2
    · omega
    · have := hR.lt _ _ _ _ h2; omega
  · rcases List.mem_cons.1 hx' with rfl | hm
    · simp only [upd_self] at h
      cases h
      refine ⟨fun hh => by have := hR.hlt _ hh; omega, fun hh => by have := hR.flt _ hh; omega, ho _ _ hx.up⟩
    · have h2 := hne x hm b y h
      obtain ⟨h3, h4, h5⟩ := hR.obs x hm b y h2
      exact ⟨h3, h4, h5.up hx.up (Go.RowKit.Below.heap_alloc w _ b (hR.lt _ _ _ _ h2).1)⟩
  · rcases List.mem_cons.1 hx' with rfl | hm
    · exact Nat.lt_succ_self _
    · exact Nat.lt_succ_of_lt (hR.nb x hm)
  · simp only [upd_self] at h
    cases h
    have := (hR.lt _ _ _ _ (hne x hm _ _ h')).1
    omega
  · exact hac b y b' y' (hne a ha _ _ h) (hne c hc _ _ h')
end
end Go.Proofs.Ytckkcgkgfkgfdaa.AM
