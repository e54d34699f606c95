/- An abstract memory for proofs over Go code: values as trees, objects of one's own, rows that nobody writes any more. Plain words and laws; no condition. -/
import Derived.Calls
import Derived.OrdersHeld
import Derived.RegionTactic
import Derived.Below
import Derived.Deep.MidRow
namespace Go.Proofs.Ytckkcgkgfkgfdaa.AM
/-- A value, as a proof sees it. -/
inductive AV : Type 1
  | int (lit : Bool) (k : IntKind) (n : Int)
  | bool (b : Bool)
  | val (v : Value)
  | agg (cs : List AV)
  | tup (vs : List AV)
  | ptr (ix bs off : Nat)
  | rptr (ix bs st i off : Nat)
  | own (ix bs st i n : Nat)
  | list (st : Nat) (gd full : Bool) (l : List AV)
  | mlist (st : Nat) (gd full : Bool) (α : Type) (enc : α → AV) (d : α) (l : List α)
  | hptr (el : AV) (st off : Nat)
  | fn (f : Fn) (cs : List AV)
def fl (us : List Value) : List Value := us.flatMap (·.cells.toList)
/-- An address of a row that stands as it is, with room for so many cells. -/
def okAd (w : World) (ad : Addr) (n : Nat) : Prop :=
  ad.spot = none ∧ (∀ o, w.frozen? ⟨ad.block, o, none⟩ = false) ∧ ∃ T N, w.shape? ad.block = some (T, N) ∧ ad.off + n ≤ N
def HeldAt (H : Nat → Prop) (w : World) (a : Option Addr) (cs : List Value) : Prop :=
  cs = [] ∨ ∃ ad, a = some ad ∧ ad.spot = none ∧ H ad.block ∧ w.rangeAt ad.block ad.off cs
def Ones (st : Nat) (us : List Value) : Prop := ∀ x ∈ us, x.cells.size = st ∧ ∀ c ∈ x.cells.toList, c.oneCell' = true
def SlR (H : Nat → Prop) (w : World) (st : Nat) (gd full : Bool) (us : List Value) (u : Value) : Prop :=
  ∃ a n cap, u = .slice a n cap ∧ us.length = n ∧ n ≤ cap ∧ (full = true → cap = n) ∧ Ones st us ∧ HeldAt H w a (fl us) ∧ (gd = true → ∀ ad, a = some ad → okAd w ad (n * st))
abbrev Phi := Nat → Nat → Option (Nat × Nat)
mutual
/-- What a value is in a world. -/
def VR (φ : Phi) (H : Nat → Prop) (w : World) : AV → Value → Prop
  | .int _ k n, u => u = .int k n
  | .bool b, u => u = .bool b
  | .val v, u => u = v
  | .agg cs, u => ∃ us : List Value, u = .agg us.toArray ∧ (∀ c ∈ us, c.oneCell' = true) ∧ VRs φ H w cs us
  | .tup cs, u => ∃ us : List Value, u = .tuple us.toArray ∧ VRs φ H w cs us
  | .ptr ix bs off, u => ∃ b o, φ ix bs = some (b, o) ∧ u = .pointer (some ⟨b, o + off, none⟩)
  | .rptr ix bs st i off, u => ∃ b o, φ ix bs = some (b, o) ∧ u = .pointer (some ⟨b, o + i * st + off, none⟩)
  | .own ix bs st i n, u => (∃ b o cap T N, φ ix bs = some (b, o) ∧ u = .slice (some ⟨b, o + i * st, none⟩) n cap ∧ n ≤ cap ∧ w.shape? b = some (T, N) ∧ o + (i + cap) * st ≤ N ∧ ∀ k, w.frozen? ⟨b, k, none⟩ = false) ∨
      (n = 0 ∧ ∃ a, u = .slice a 0 0 ∧ ∀ ad, a = some ad → okAd w ad 0)
  | .list st gd full l, u => ∃ us, VRs φ H w l us ∧ SlR H w st gd full us u
  | .mlist st gd full _ enc _ l, u => ∃ us, us.length = l.length ∧ (∀ i (h : i < l.length), VR φ H w (enc l[i]) (us.getD i undef)) ∧ SlR H w st gd full us u
  | .hptr el st off, u => ∃ (x : Value) (ad : Addr), VR φ H w el x ∧ u = .pointer (some ⟨ad.block, ad.off + off, none⟩) ∧ Ones st [x] ∧ ad.spot = none ∧ H ad.block ∧ w.rangeAt ad.block ad.off x.cells.toList
  | .fn f cs, u => ∃ us : List Value, u = .func f #[] us.toArray ∧ VRs φ H w cs us
def VRs (φ : Phi) (H : Nat → Prop) (w : World) : List AV → List Value → Prop
  | [], us => us = []
  | v :: vs, us => ∃ u us', us = u :: us' ∧ VR φ H w v u ∧ VRs φ H w vs us'
end
/-- A world behind another: what was known stays. -/
structure Up (φ : Phi) (H : Nat → Prop) (w : World) (φ' : Phi) (H' : Nat → Prop) (w' : World) : Prop where
  phi : ∀ ix bs x, φ ix bs = some x → φ' ix bs = some x
  held : ∀ b, H b → H' b
  blk : ∀ b, H b → w'.heap[b]? = w.heap[b]?
  shp : ∀ b T n, w.shape? b = some (T, n) → w'.shape? b = some (T, n)
  frz : ∀ b T n, w.shape? b = some (T, n) → (∀ o, w.frozen? ⟨b, o, none⟩ = false) → ∀ o, w'.frozen? ⟨b, o, none⟩ = false
theorem Up.refl (φ H w) : Up φ H w φ H w := ⟨fun _ _ _ h => h, fun _ h => h, fun _ _ => rfl, fun _ _ _ h => h, fun _ _ _ _ h => h⟩
theorem Up.trans {φ H w φ' H' w' φ'' H'' w''} (h : Up φ H w φ' H' w') (k : Up φ' H' w' φ'' H'' w'') : Up φ H w φ'' H'' w'' :=
  ⟨fun _ _ _ x => k.phi _ _ _ (h.phi _ _ _ x), fun _ x => k.held _ (h.held _ x), fun b x => (k.blk b (h.held b x)).trans (h.blk b x), fun _ _ _ x => k.shp _ _ _ (h.shp _ _ _ x), fun b T n x y => k.frz b T n (h.shp _ _ _ x) (h.frz b T n x y)⟩
section
variable {φ : Phi} {H : Nat → Prop} {w : World} {φ' : Phi} {H' : Nat → Prop} {w' : World}
theorem Up.cell (h : Up φ H w φ' H' w') {b : Nat} (hb : H b) (o : Nat) : w'.cell? ⟨b, o, none⟩ = w.cell? ⟨b, o, none⟩ := World.cell?_of_block (w := w) (h.blk b hb)
theorem Up.frozen (h : Up φ H w φ' H' w') {b : Nat} (hb : H b) (o : Nat) : w'.frozen? ⟨b, o, none⟩ = w.frozen? ⟨b, o, none⟩ := World.frozen?_of_block (w := w) (h.blk b hb)
theorem Up.range (h : Up φ H w φ' H' w') {b : Nat} (hb : H b) {o : Nat} {cs : List Value} (hr : w.rangeAt b o cs) : w'.rangeAt b o cs := fun j v hj => by rw [h.cell hb]; exact hr j v hj
theorem Up.okAd (h : Up φ H w φ' H' w') {ad : Addr} {n : Nat} (k : okAd w ad n) : AM.okAd w' ad n := by
  obtain ⟨h2, h3, T, N, h4, h5⟩ := k
  exact ⟨h2, h.frz _ _ _ h4 h3, T, N, h.shp _ _ _ h4, h5⟩
theorem Up.heldAt (h : Up φ H w φ' H' w') {a : Option Addr} {cs : List Value} (k : HeldAt H w a cs) : HeldAt H' w' a cs := by
  rcases k with k | ⟨ad, h1, h2, h3, h4⟩
  · exact .inl k
  · exact .inr ⟨ad, h1, h2, h.held _ h3, h.range h3 h4⟩
theorem Up.slR (h : Up φ H w φ' H' w') {st : Nat} {gd full : Bool} {us : List Value} {u : Value} (k : SlR H w st gd full us u) : SlR H' w' st gd full us u := by
  obtain ⟨a, n, cap, h1, h2, h3, h4, h5, h6, h7⟩ := k
  exact ⟨a, n, cap, h1, h2, h3, h4, h5, h.heldAt h6, fun g ad e => h.okAd (h7 g ad e)⟩
mutual
theorem Up.vr (h : Up φ H w φ' H' w') : ∀ (v : AV) (u : Value), VR φ H w v u → VR φ' H' w' v u
  | .int _ _ _, _, k => k
  | .bool _, _, k => k
  | .val _, _, k => k
  | .agg cs, u, k => by
    obtain ⟨us, h1, h2, h3⟩ := k
    exact ⟨us, h1, h2, h.vrs cs us h3⟩
  | .tup cs, u, k => by
    obtain ⟨us, h1, h3⟩ := k
    exact ⟨us, h1, h.vrs cs us h3⟩
  | .ptr ix bs off, u, k => by
    obtain ⟨b, o, h1, h2⟩ := k
    exact ⟨b, o, h.phi _ _ _ h1, h2⟩
  | .rptr ix bs st i off, u, k => by
    obtain ⟨b, o, h1, h2⟩ := k
    exact ⟨b, o, h.phi _ _ _ h1, h2⟩
  | .own ix bs st i n, u, k => by
    rcases k with ⟨b, o, cap, T, N, h1, h2, h3, h4, h5, h6⟩ | ⟨h1, a, h2, h3⟩
    · exact .inl ⟨b, o, cap, T, N, h.phi _ _ _ h1, h2, h3, h.shp _ _ _ h4, h5, h.frz _ _ _ h4 h6⟩
    · exact .inr ⟨h1, a, h2, fun ad e => h.okAd (h3 ad e)⟩
  | .list st gd full l, u, k => by
    obtain ⟨us, h1, h2⟩ := k
    exact ⟨us, h.vrs l us h1, h.slR h2⟩
  | .mlist st gd full _ enc _ l, u, k => by
    obtain ⟨us, h1, h2, h3⟩ := k
    exact ⟨us, h1, fun i hi => Up.vr h (enc l[i]) _ (h2 i hi), h.slR h3⟩
  | .hptr el st off, u, k => by
    obtain ⟨x, ad, h1, h2, h3, h4, h5, h6⟩ := k
    exact ⟨x, ad, Up.vr h el x h1, h2, h3, h4, h.held _ h5, h.range h5 h6⟩
  | .fn f cs, u, k => by
    obtain ⟨us, h1, h3⟩ := k
    exact ⟨us, h1, h.vrs cs us h3⟩
theorem Up.vrs (h : Up φ H w φ' H' w') : ∀ (v : List AV) (u : List Value), VRs φ H w v u → VRs φ' H' w' v u
  | [], _, k => k
  | v :: vs, u, k => by
    obtain ⟨x, us', h1, h2, h3⟩ := k
    exact ⟨x, us', h1, h.vr v x h2, h.vrs vs us' h3⟩
end
end
end Go.Proofs.Ytckkcgkgfkgfdaa.AM
