/- What a function's own struct blocks hold, a row of its own, and slices that lie apart from them; the credit's functions over all. -/
import Derived.Test.YtnodcekkbbmfnaaCrP
import Derived.Test.YtnodcekkbbmfnaaSeq
namespace Go.Proofs.Ytnodcekkbbmfnaa.CrK
open Go.RowKit Go.Proofs.Ytnodcekkbbmfnaa.QCrB Go.Proofs.YtnodcekkbbmfnaaW.PrintWords Go.Proofs.YtnodcekkbbmfnaaW.PrintLast Go.Proofs.YtnodcekkbbmfnaaW.PrintMore
set_option linter.unusedVariables false
/-- A block of one's own: its number, its type, its cells. -/
structure Own where
  g : Nat
  t : TypeId
  cs : Array Value
/-- A slice that lies apart from the blocks of B. -/
def Vb {α : Type} (d : Kd α) (w : World) (B : List Nat) (v : Value) (xs : List α) : Prop := Kd.V d 0 w 0 (fun k => k ∉ B) v xs
section
variable {α : Type} {d : Kd α} {w w1 w2 : World} {B B' : List Nat} {v v1 : Value} {xs : List α}
theorem Vb.below (h : Vb d w B v xs) (hb : Below w.heap.size w w1) : Vb d w1 B v xs := Kd.V_below h hb
theorem Vb.alloc (h : Vb d w B v xs) (o : Obj) : Vb d (w.alloc o) (w.heap.size :: B) v xs :=
  Kd.V_mono (Kd.V_alloc (Kd.V_bound h) o) (fun k hk hm => by
    rcases List.mem_cons.1 hm with e | hm
    · have := hk.2; omega
    · exact hk.1 hm)
theorem Vb.less (h : Vb d w B v xs) (hs : ∀ b ∈ B', b ∈ B) : Vb d w B' v xs := Kd.V_mono h (fun k hk hm => hk (hs k hm))
theorem Vb.set (h : Vb d w B v xs) {g : Nat} (hg : g ∈ B) (i : Nat) (u : Value) : Vb d (w.setCell ⟨g, i, none⟩ u) B v xs :=
  Kd.V_far h (fun k hk e => hk (by rw [e]; exact hg)) u
theorem Vb.reads (h : Vb d w B v xs) : ∃ A c, v = .slice A xs.length c ∧ xs.length ≤ c ∧ Kd.C d w A xs.length xs := by
  obtain ⟨A, c, rfl⟩ := Kd.V_slice h
  exact ⟨A, c, rfl, (Kd.V_reads' h).2.1, (Kd.V_reads' h).2.2⟩
/-- What a callee hands back. -/
theorem Vb.back {P0 P1 : Nat → Prop} {base e : Nat} (h : Kd.V d e w1 base (fun k_ => ((P0 k_ ∨ P1 k_) ∨ w.heap.size ≤ k_)) v xs) (h0 : ∀ k, P0 k → k ∉ B) (h1 : ∀ k, P1 k → k ∉ B)
    (hB : ∀ b ∈ B, b < w.heap.size) : Vb d w1 B v xs :=
  Kd.V_mono h (fun k hk => by
    rcases hk with (hk | hk) | hk
    · exact h0 k hk
    · exact h1 k hk
    · exact fun hm => by have := hB k hm; omega)
/-- What is all new. -/
theorem Vb.new {base e : Nat} {ok : Nat → Prop} (h : d.R e w1 w.heap.size ok v xs) (hB : ∀ b ∈ B, b < w.heap.size) : Vb d w1 B v xs :=
  Kd.V_mono (e := e) (base := 0) (Kd.R_V (Kd.R_mono (Kd.R_bound h) (fun k hk => hk.2.1))) (fun k hk hm => by have := hB k hm; omega)
end
/-- A row that is held. -/
inductive Row where
  | a (v : Value) (xs : List S43)
  | b (v : Value) (xs : List S68)
  | c (v : Value) (xs : List Int)
def Row.holds (w : World) (B : List Nat) : Row → Prop
  | .a v xs => Vb k43 w B v xs
  | .b v xs => Vb k68 w B v xs
  | .c v xs => Vb (Kd.int .i64) w B v xs
section
variable {w w1 : World} {B B' : List Nat} {r : Row}
theorem Row.below (h : r.holds w B) (hb : Below w.heap.size w w1) : r.holds w1 B := by cases r <;> exact Vb.below h hb
theorem Row.alloc (h : r.holds w B) (o : Obj) : r.holds (w.alloc o) (w.heap.size :: B) := by cases r <;> exact Vb.alloc h o
theorem Row.less (h : r.holds w B) (hs : ∀ b ∈ B', b ∈ B) : r.holds w B' := by cases r <;> exact Vb.less h hs
theorem Row.set (h : r.holds w B) {g : Nat} (hg : g ∈ B) (i : Nat) (u : Value) : r.holds (w.setCell ⟨g, i, none⟩ u) B := by cases r <;> exact Vb.set h hg i u
end
theorem V_gr {α : Type} {d : Kd α} {e base : Nat} {ok : Nat → Prop} {W w1 : World} {v : Value} {xs : List α} (h : Kd.V d e W base ok v xs) {row : Option Nat} (hg : W.grownBy w1 row) (hok : ∀ k, ok k → some k ≠ row) : Kd.V d e w1 base ok v xs :=
  Kd.V_map h (fun _ hf => Kd.F_step hf (fun k ho hk => hg.block k hk (hok k ho)))
theorem R_set {w : World} {base g i : Nat} {u v : Value} {xs : List Int} (h : (Kd.int .i64).R 2 w base (fun _ => True) v xs) (hne : some g ≠ v.ownBlock) : (Kd.int .i64).R 2 (w.setCell ⟨g, i, none⟩ u) base (fun _ => True) v xs :=
  Kd.R_mono (Kd.R_step (Kd.R_tight rfl h) (fun k ho _ => Below.heap_setCell w ⟨g, i, none⟩ u k (fun e => hne (by rw [← show k = g from e]; exact ho)))) (fun _ _ => trivial)
theorem Row.grown {w w1 : World} {B B' : List Nat} {r : Row} (h : r.holds w B) {row : Option Nat} (hg : w.grownBy w1 row) (hr : ∀ k, row = some k → k ∈ B) (hs : ∀ b ∈ B', b ∈ B ∨ w.heap.size ≤ b) : r.holds w1 B' := by
  have key : ∀ {α : Type} {d : Kd α} {v : Value} {xs : List α}, Vb d w B v xs → Vb d w1 B' v xs := fun {α d v xs} h =>
    Kd.V_mono (V_gr (Kd.V_mono (Kd.V_bound h) (fun k hk => (⟨fun hm => (hs k hm).elim hk.1 (fun h2 => by have := hk.2; omega), hk.1⟩ : k ∉ B' ∧ k ∉ B))) hg (fun k hk e => hk.2 (hr k e.symm))) (fun k hk => hk.1)
  cases r <;> exact key h
/-- The blocks that no row lies in. -/
def bad (B : List Own) (hv : Value) : List Nat := hv.ownBlock.toList ++ B.map Own.g
/-- All that is one's own, a row of one's own, and all rows that are held. -/
structure Cfg (w wr : World) (B : List Own) (hv : Value) (had : List Int) (R : List Row) : Prop where
  bel : Below w.heap.size w wr
  blk : ∀ x ∈ B, wr.heap[x.g]? = some (.cells x.cs x.t (0, 0)) ∧ w.heap.size ≤ x.g
  apart : (bad B hv).Nodup
  own : (Kd.int .i64).R 2 wr w.heap.size (fun _ => True) hv had
  rows : ∀ r ∈ R, r.holds wr (bad B hv)
section
variable {w wr w2 : World} {B B' : List Own} {hv : Value} {had : List Int} {R R' : List Row} {x : Own} {g i : Nat} {t : TypeId} {cs cs' : Array Value} {u : Value}
theorem own_in (hv : Value) (k : Nat) : k ∈ hv.ownBlock.toList ↔ hv.ownBlock = some k := by
  cases hv.ownBlock with
  | none => simp
  | some a => simp [eq_comm]
theorem Cfg.lt (h : Cfg w wr B hv had R) : ∀ b ∈ bad B hv, b < wr.heap.size := by
  intro b hb
  rcases List.mem_append.1 hb with hb | hb
  · exact Kd.R_lt h.own b ((own_in hv b).1 hb)
  · obtain ⟨x, hx, rfl⟩ := List.mem_map.1 hb
    exact blk_lt (h.blk x hx).1
theorem Cfg.ne (h : Cfg w wr B hv had R) (hx : x ∈ B) : some x.g ≠ hv.ownBlock := by
  intro e
  have h1 := (own_in hv x.g).2 e.symm
  have h2 : x.g ∈ B.map Own.g := List.mem_map.2 ⟨x, hx, rfl⟩
  exact (List.nodup_append.1 h.apart).2.2 _ h1 _ h2 rfl
theorem Cfg.init (w : World) : Cfg w w [] (.slice none 0 0) [] [] := ⟨Below.refl _ _, (fun x hx => by cases hx), List.nodup_nil, Kd.R_nil _ _ _ _ _, (fun r hr => by cases hr)⟩
theorem Cfg.below (h : Cfg w wr B hv had R) (hb : Below wr.heap.size wr w2) : Cfg w w2 B hv had R := ⟨below_step h.bel hb, fun x hx => ⟨blk_below (h.blk x hx).1 hb, (h.blk x hx).2⟩, h.apart, Kd.R_below h.own hb, fun r hr => Row.below (h.rows r hr) hb⟩
theorem Cfg.drew (h : Cfg w wr B hv had R) : Cfg w wr.drew B hv had R := h.below (Below.refl _ _).drew
theorem Cfg.alloc (h : Cfg w wr B hv had R) (cs : Array Value) (t : TypeId) : Cfg w (wr.alloc (.cells cs t)) (⟨wr.heap.size, t, cs⟩ :: B) hv had R := by
  refine ⟨h.bel.alloc (below_size h.bel) _, fun x hx => ?_, ?_, Kd.R_alloc h.own _, fun r hr => Row.less (Row.alloc (h.rows r hr) _) (fun b hb => ?_)⟩
  · rcases List.mem_cons.1 hx with rfl | hx
    · exact ⟨heap_alloc_new _ _, below_size h.bel⟩
    · exact ⟨blk_alloc (h.blk x hx).1 _, (h.blk x hx).2⟩
  · have hn : wr.heap.size ∉ bad B hv := fun hm => by have := h.lt _ hm; omega
    exact ((List.perm_middle (l₁ := hv.ownBlock.toList) (a := wr.heap.size) (l₂ := B.map Own.g)).nodup_iff).2 (List.nodup_cons.2 ⟨hn, h.apart⟩)
  · exact (List.perm_middle (l₁ := hv.ownBlock.toList) (a := wr.heap.size) (l₂ := B.map Own.g)).mem_iff.1 hb
theorem Cfg.row (h : Cfg w wr B hv had R) {r : Row} (hr : r.holds wr (bad B hv)) : Cfg w wr B hv had (r :: R) := ⟨h.bel, h.blk, h.apart, h.own, fun r' hr' => by
  rcases List.mem_cons.1 hr' with rfl | hr'
  · exact hr
  · exact h.rows r' hr'⟩
theorem Cfg.keep (h : Cfg w wr B hv had R) (hs : ∀ r ∈ R', r ∈ R) : Cfg w wr B hv had R' := ⟨h.bel, h.blk, h.apart, h.own, fun r hr => h.rows r (hs r hr)⟩
/-- Some of the blocks alone. -/
theorem Cfg.subl (h : Cfg w wr B hv had R) (hs : B'.Sublist B) : Cfg w wr B' hv had R := by
  have hb : (bad B' hv).Sublist (bad B hv) := List.Sublist.append (List.Sublist.refl _) (hs.map _)
  exact ⟨h.bel, fun x hx => h.blk x (hs.subset hx), h.apart.sublist hb, h.own, fun r hr => Row.less (h.rows r hr) (fun b hb' => hb.subset hb')⟩
theorem Cfg.drop (h : Cfg w wr B hv had R) (n : Nat) : Cfg w wr (B.drop n) hv had R := h.subl (List.drop_sublist _ _)
theorem Cfg.take (h : Cfg w wr B hv had R) (n : Nat) : Cfg w wr (B.take n) hv had [] := (h.subl (List.take_sublist _ _)).keep (fun r hr => by cases hr)
theorem map_set_g (n : Nat) (hn : B[n]? = some ⟨g, t, cs⟩) : (B.set n ⟨g, t, cs'⟩).map Own.g = B.map Own.g := by
  rw [List.map_set]
  refine List.ext_getElem? fun j => ?_
  rw [List.getElem?_set]
  split
  · rename_i e
    subst e
    split
    · rw [List.getElem?_map, hn]; rfl
    · rename_i h
      rw [List.getElem?_eq_none (by omega)]
  · rfl
theorem Cfg.set (h : Cfg w wr B hv had R) (n : Nat) (hn : B[n]? = some ⟨g, t, cs⟩) (i : Nat) (u : Value) (e : cs.setIfInBounds i u = cs') : Cfg w (wr.setCell ⟨g, i, none⟩ u) (B.set n ⟨g, t, cs'⟩) hv had R := by
  have hx : (⟨g, t, cs⟩ : Own) ∈ B := List.mem_of_getElem? hn
  have hm := map_set_g (cs' := cs') n hn
  have hm2 : bad (B.set n ⟨g, t, cs'⟩) hv = bad B hv := by unfold bad; rw [hm]
  have hb := h.blk _ hx
  have hgm : g ∈ bad B hv := List.mem_append_right _ (List.mem_map.2 ⟨_, hx, rfl⟩)
  refine ⟨below_set h.bel hb.2, fun y hy => ?_, by rw [hm2]; exact h.apart, R_set h.own (h.ne hx), fun r hr => by rw [hm2]; exact Row.set (h.rows r hr) hgm i u⟩
  obtain ⟨j, hj⟩ := List.getElem?_of_mem hy
  rw [List.getElem?_set] at hj
  split at hj
  · split at hj
    · cases hj
      exact ⟨blk_put hb.1 i u e, hb.2⟩
    · cases hj
  · rename_i hne
    have hyB : y ∈ B := List.mem_of_getElem? hj
    refine ⟨blk_far (h.blk y hyB).1 (fun e2 => hne ?_) u, (h.blk y hyB).2⟩
    have h1 : (B.map Own.g)[n]? = Option.some g := by rw [List.getElem?_map, hn]; rfl
    have h2 : (B.map Own.g)[j]? = Option.some g := by rw [List.getElem?_map, hj]; exact congrArg Option.some e2
    have hnl : n < (B.map Own.g).length := (List.getElem?_eq_some_iff.1 h1).1
    exact (List.getElem?_inj hnl (List.nodup_append.1 h.apart).2.1).1 (h1.trans h2.symm)
/-- The row of one's own has grown. -/
theorem Cfg.grow {v1 : Value} {had1 : List Int} (h : Cfg w wr B hv had R) (ho : (Kd.int .i64).R 2 w2 w.heap.size (fun _ => True) v1 had1) (hb : Below w.heap.size w w2) (hg : wr.grownBy w2 hv.ownBlock) (hat : v1.ownBlock = hv.ownBlock ∨ ∃ b, v1.ownBlock = some b ∧ wr.heap.size ≤ b) :
    Cfg w w2 B v1 had1 R := by
  refine ⟨hb, fun x hx => ⟨blk_grown (h.blk x hx).1 hg (h.ne hx), (h.blk x hx).2⟩, ?_, ho, fun r hr => Row.grown (h.rows r hr) hg (fun k e => List.mem_append_left _ ((own_in hv k).2 e)) (fun b hm => ?_)⟩
  · rcases hat with e | ⟨b, e, hle⟩
    · have h1 := h.apart
      unfold bad at h1 ⊢
      rw [e]; exact h1
    · unfold bad
      rw [e]
      refine List.nodup_cons.2 ⟨fun hm => ?_, (List.nodup_append.1 h.apart).2.1⟩
      have := h.lt b (List.mem_append_right _ hm)
      omega
  · rcases List.mem_append.1 hm with hm | hm
    · have e1 := (own_in v1 b).1 hm
      rcases hat with e | ⟨b', e, hle⟩
      · exact .inl (List.mem_append_left _ ((own_in hv b).2 (e ▸ e1)))
      · rw [e1] at e
        cases e
        exact .inr hle
    · exact .inl (List.mem_append_right _ hm)
theorem Cfg.at (h : Cfg w wr B hv had R) (n : Nat) (hn : B[n]? = some x) : wr.heap[x.g]? = some (.cells x.cs x.t (0, 0)) := (h.blk x (List.mem_of_getElem? hn)).1
theorem Cfg.cell (h : Cfg w wr B hv had R) (n : Nat) (hn : B[n]? = some ⟨g, t, cs⟩) (i : Nat) : wr.cell? ⟨g, i, none⟩ = cs[i]? := blk_cell (h.at n hn) i
theorem Cfg.froz (h : Cfg w wr B hv had R) (n : Nat) (hn : B[n]? = some ⟨g, t, cs⟩) (i : Nat) : wr.frozen? ⟨g, i, none⟩ = false := blk_frozen (h.at n hn) i
/-! The credit's functions. -/
variable {v0 v1 z0 z1 : Value} {ns : List S43} {us us2 : List Int} {ms ms2 : List S68}
theorem Cfg.va (h : Cfg w wr B hv had R) (hm : Row.a v0 ns ∈ R) : ∃ A c, v0 = .slice A ns.length c ∧ ns.length ≤ c ∧ Kd.C k43 wr A ns.length ns := Vb.reads (h.rows _ hm)
theorem Cfg.vb (h : Cfg w wr B hv had R) (hm : Row.b v0 ms ∈ R) : ∃ A c, v0 = .slice A ms.length c ∧ ms.length ≤ c ∧ Kd.C k68 wr A ms.length ms := Vb.reads (h.rows _ hm)
theorem Cfg.vc (h : Cfg w wr B hv had R) (hm : Row.c v0 us ∈ R) : ∃ A c, v0 = .slice A us.length c ∧ us.length ≤ c ∧ Kd.C (Kd.int .i64) wr A us.length us := Vb.reads (h.rows _ hm)
theorem reserve_ (k : Nat) (leaf amt : Int) {r1 : List S43} {r2 : List Int} {r3 r4 : Int} (h : Cfg w wr B hv had R) (ha : Row.a v0 ns ∈ R) (hc : Row.c v1 us ∈ R) (hf : credit_Reserve.f k ns us leaf amt = some (r1, r2, r3, r4)) :
    Calls Try.prog 48 #[.agg #[v0, v1], .int .i64 leaf, .int .i64 amt] wr fun e w' => ∃ u0 u1, e = .returned (.tuple #[.agg #[u0, u1], .int .i64 r3, .int .i64 r4]) ∧ Cfg w w' B hv had (.a u0 r1 :: .c u1 r2 :: R) := by
  have h0 : Vb k43 wr (bad B hv) v0 ns := h.rows _ ha
  have h1 : Vb (Kd.int .i64) wr (bad B hv) v1 us := h.rows _ hc
  obtain ⟨A0, c0, e0⟩ := Kd.V_slice h0
  obtain ⟨A1, c1, e1⟩ := Kd.V_slice h1
  subst e0 e1
  refine (credit_Reserve.calls k _ A0 c0 ns _ A1 c1 us leaf amt r1 r2 r3 r4 wr h0 h1 hf).mono ?_
  rintro e w' ⟨u0, u1, rfl, k0, k1, hb⟩
  exact ⟨u0, u1, rfl, ((h.below hb).row (r := .c u1 r2) (Vb.back k1 (fun _ h => h) (fun _ h => h) h.lt)).row (r := .a u0 r1) (Vb.back k0 (fun _ h => h) (fun _ h => h) h.lt)⟩
theorem release_ (k : Nat) (leaf amt : Int) {r1 : List S43} {r2 : List Int} {r3 : Bool} (h : Cfg w wr B hv had R) (ha : Row.a v0 ns ∈ R) (hc : Row.c v1 us ∈ R) (hf : credit_Release.f k ns us leaf amt = some (r1, r2, r3)) :
    Calls Try.prog 53 #[.agg #[v0, v1], .int .i64 leaf, .int .i64 amt] wr fun e w' => ∃ u0 u1, e = .returned (.tuple #[.agg #[u0, u1], .bool r3]) ∧ Cfg w w' B hv had (.a u0 r1 :: .c u1 r2 :: R) := by
  have h0 : Vb k43 wr (bad B hv) v0 ns := h.rows _ ha
  have h1 : Vb (Kd.int .i64) wr (bad B hv) v1 us := h.rows _ hc
  obtain ⟨A0, c0, e0⟩ := Kd.V_slice h0
  obtain ⟨A1, c1, e1⟩ := Kd.V_slice h1
  subst e0 e1
  refine (credit_Release.calls k _ A0 c0 ns _ A1 c1 us leaf amt r1 r2 r3 wr h0 h1 hf).mono ?_
  rintro e w' ⟨u0, u1, rfl, k0, k1, hb⟩
  exact ⟨u0, u1, rfl, ((h.below hb).row (r := .c u1 r2) (Vb.back k1 (fun _ h => h) (fun _ h => h) h.lt)).row (r := .a u0 r1) (Vb.back k0 (fun _ h => h) (fun _ h => h) h.lt)⟩
theorem limit_ (k : Nat) (leaf amt : Int) {r1 : List S43} {r2 : List Int} {r3 : Int} (h : Cfg w wr B hv had R) (ha : Row.a v0 ns ∈ R) (hc : Row.c v1 us ∈ R) (hf : credit_Limit.f k ns us leaf amt = some (r1, r2, r3)) :
    Calls Try.prog 55 #[.agg #[v0, v1], .int .i64 leaf, .int .i64 amt] wr fun e w' => ∃ u0 u1, e = .returned (.tuple #[.agg #[u0, u1], .int .i64 r3]) ∧ Cfg w w' B hv had (.a u0 r1 :: .c u1 r2 :: R) := by
  have h0 : Vb k43 wr (bad B hv) v0 ns := h.rows _ ha
  have h1 : Vb (Kd.int .i64) wr (bad B hv) v1 us := h.rows _ hc
  obtain ⟨A0, c0, e0⟩ := Kd.V_slice h0
  obtain ⟨A1, c1, e1⟩ := Kd.V_slice h1
  subst e0 e1
  refine (credit_Limit.calls k _ A0 c0 ns _ A1 c1 us leaf amt r1 r2 r3 wr h0 h1 hf).mono ?_
  rintro e w' ⟨u0, u1, rfl, k0, k1, hb⟩
  exact ⟨u0, u1, rfl, ((h.below hb).row (r := .c u1 r2) (Vb.back k1 (fun _ h => h) (fun _ h => h) h.lt)).row (r := .a u0 r1) (Vb.back k0 (fun _ h => h) (fun _ h => h) h.lt)⟩
theorem from_ (k : Nat) {r1 : List S68} {r2 : List Int} (h : Cfg w wr B hv had R) (ha : Row.a v0 ns ∈ R) (hc : Row.c v1 us ∈ R) (hf : stopgatelaw04_From.f k ns us = some (r1, r2)) :
    Calls Try.prog 49 #[.agg #[v0, v1]] wr fun e w' => ∃ u0 u1, e = .returned (.agg #[u0, u1]) ∧ Cfg w w' B hv had (.b u0 r1 :: .c u1 r2 :: R) := by
  obtain ⟨A0, c0, rfl, l0, C0⟩ := h.va ha
  obtain ⟨A1, c1, rfl, l1, C1⟩ := h.vc hc
  refine (stopgatelaw04_From.calls k A0 c0 ns A1 c1 us r1 r2 wr C0 l0 C1 l1 hf).mono ?_
  rintro e w' ⟨u0, u1, rfl, k0, k1, hb⟩
  exact ⟨u0, u1, rfl, ((h.below hb).row (r := .c u1 r2) (Vb.new (base := 0) k1 h.lt)).row (r := .b u0 r1) (Vb.new (base := 0) k0 h.lt)⟩
theorem same_ (k : Nat) {r : Bool} (h : Cfg w wr B hv had R) (ha : Row.b v0 ms ∈ R) (hc : Row.c v1 us ∈ R) (ha2 : Row.b z0 ms2 ∈ R) (hc2 : Row.c z1 us2 ∈ R) (hf : stopgateref04_Same.f k ms us ms2 us2 = some r) :
    Calls Try.prog 51 #[.agg #[v0, v1], .agg #[z0, z1]] wr fun e w' => e = .returned (.bool r) ∧ Cfg w w' B hv had R := by
  obtain ⟨A0, c0, rfl, l0, C0⟩ := h.vb ha
  obtain ⟨A1, c1, rfl, l1, C1⟩ := h.vc hc
  obtain ⟨A2, c2, rfl, l2, C2⟩ := h.vb ha2
  obtain ⟨A3, c3, rfl, l3, C3⟩ := h.vc hc2
  refine (stopgateref04_Same.calls k A0 c0 ms A1 c1 us A2 c2 ms2 A3 c3 us2 r wr C0 l0 C1 l1 C2 l2 C3 l3 hf).mono ?_
  rintro e w' ⟨rfl, hb⟩
  exact ⟨rfl, h.below hb⟩
theorem right_ (k : Nat) {r : Bool} (h : Cfg w wr B hv had R) (ha : Row.a v0 ns ∈ R) (hc : Row.c v1 us ∈ R) (hf : credit_Right.f k ns us = some r) :
    Calls Try.prog 44 #[.agg #[v0, v1]] wr fun e w' => e = .returned (.bool r) ∧ Cfg w w' B hv had R := by
  obtain ⟨A0, c0, rfl, l0, C0⟩ := h.va ha
  obtain ⟨A1, c1, rfl, l1, C1⟩ := h.vc hc
  refine (credit_Right.calls k A0 c0 ns A1 c1 us r wr C0 l0 C1 l1 hf).mono ?_
  rintro e w' ⟨rfl, hb⟩
  exact ⟨rfl, h.below hb⟩
theorem told_ (h : Cfg w wr B hv had R) : Calls Try.prog 43 #[] wr fun e w' => e = .returned (.bool true) ∧ Cfg w w' B hv had R := by
  refine (stopgatelaw04_told.calls 40 true wr Pure.told_f).mono ?_
  rintro e w' ⟨rfl, hb⟩
  exact ⟨rfl, h.below hb⟩
theorem fix_ (k : Nat) {A : Option Addr} {c : Nat} {l r : List S68} (h : Cfg w wr B hv had R) (C0 : Kd.C k68 wr A l.length l) (l0 : l.length ≤ c) (hf : stopgateref03_Fix.f k l = some r) :
    Calls Try.prog 28 #[.slice A l.length c] wr fun e w' => ∃ u0, e = .returned u0 ∧ Cfg w w' B hv had (.b u0 r :: R) := by
  refine (stopgateref03_Fix.calls k A c l r wr C0 l0 hf).mono ?_
  rintro e w' ⟨u0, rfl, k0, hb⟩
  exact ⟨u0, rfl, (h.below hb).row (r := .b u0 r) (Vb.new (base := 0) k0 h.lt)⟩
theorem to_ (k : Nat) {r : List S43} (h : Cfg w wr B hv had R) (ha : Row.b v0 ms ∈ R) (hf : stopgatelaw03_To.f k ms = some r) :
    Calls Try.prog 25 #[v0] wr fun e w' => ∃ u0, e = .returned u0 ∧ Cfg w w' B hv had (.a u0 r :: R) := by
  obtain ⟨A0, c0, rfl, l0, C0⟩ := h.vb ha
  refine (stopgatelaw03_To.calls k A0 c0 ms r wr C0 l0 hf).mono ?_
  rintro e w' ⟨u0, rfl, k0, hb⟩
  exact ⟨u0, rfl, (h.below hb).row (r := .a u0 r) (Vb.new (base := 0) k0 h.lt)⟩
theorem begin_ {r1 : List S43} {r2 : List Int} (h : Cfg w wr B hv had R) (ha : Row.a v0 ns ∈ R) (hf : credit_Begin.f ns = some (r1, r2)) :
    Calls Try.prog 47 #[v0] wr fun e w' => ∃ u0 u1, e = .returned (.agg #[u0, u1]) ∧ Cfg w w' B hv had (.a u0 r1 :: .c u1 r2 :: R) := by
  obtain ⟨A0, c0, rfl, l0, C0⟩ := h.va ha
  refine (credit_Begin.calls A0 c0 ns r1 r2 wr C0 l0 hf).mono ?_
  rintro e w' ⟨u0, u1, rfl, k0, k1, hb⟩
  exact ⟨u0, u1, rfl, ((h.below hb).row (r := .c u1 r2) (Vb.new (base := 0) k1 h.lt)).row (r := .a u0 r1) (Vb.new (base := 0) k0 h.lt)⟩
end
end Go.Proofs.Ytnodcekkbbmfnaa.CrK
