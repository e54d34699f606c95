/- Words for memory: appending to a row of the call's own, storing into it, making one. Plain theorems; no condition. -/
import Derived.OwnWalk
import Derived.RegionTactic
import Derived.Laws.MakeOwn
import Derived.Laws.Wrap64
import Derived.Test.YtnodcekkbbmfnaaK
namespace Go.Proofs.Ytnodcekkbbmfnaa.K
open Go.RowKit

/-- A kind that leads nowhere. -/
def Flat {α : Type} (d : Kd α) : Prop := ∀ {w w' : World} {F F' : Bl} {x : α} {cs : List Value}, d.K w F x cs → d.K w' F' x cs
theorem flat_int (k : IntKind) : Flat (Kd.int k) := fun h => h
theorem flat_bool : Flat Kd.bool := fun h => h
theorem flat_str : Flat Kd.str := fun h => h
theorem flat_flt : Flat Kd.flt := fun h => h
theorem flat_pair {α β : Type} {d : Kd α} {e : Kd β} (h : Flat d) (h' : Flat e) : Flat (Kd.pair d e) := by
  rintro w w' F F' x cs ⟨c1, c2, rfl, h1, h2⟩
  exact ⟨c1, c2, rfl, h h1, h' h2⟩
theorem flat_iso {α β : Type} {d : Kd β} {f : α → β} (h : Flat d) : Flat (Kd.iso d f) := fun hk => h hk

/-- A literal's row, just laid: it is read. -/
theorem Rd.lit {α : Type} {d : Kd α} {w : World} {F : Bl} {g : Nat} {cells : Array Value} {e : Nat} {fz : Nat × Nat} {xs : List α} (hh : w.heap[g]? = some (.cells cells e fz)) (hF : F g) (hm : xs.length ≤ maxLen) (hr : Reps (d.K w F) d.sz xs cells.toList) :
    Rd d w F (some ⟨g, 0, none⟩) xs := by
  refine ⟨hm, fun i hi => ⟨⟨g, 0, none⟩, rfl, hF, _, hr.2 i hi, fun j u hu => ?_⟩⟩
  have hl := hr.1
  have hjs : j < d.sz := by
    have := (List.getElem?_eq_some_iff.1 hu).1
    rw [List.length_take] at this; omega
  rw [List.getElem?_take, if_pos hjs, List.getElem?_drop] at hu
  have ha : (⟨g, 0, none⟩ : Addr).add (i * d.sz + j) = ⟨g, i * d.sz + j, none⟩ := by
    unfold Addr.add; split <;> simp_all
  rw [ha]
  simp only [World.cell?, hh]
  simpa using hu

/-- A variable's own block. -/
theorem box_cell {w : World} {g : Nat} {cells : Array Value} {e : Nat} (hq : w.heap[g]? = some (.cells cells e (0, 0))) (j : Nat) {u : Value} (hu : cells[j]? = some u) : w.cell? ⟨g, j, none⟩ = some u := by
  simp only [World.cell?, hq]
  simpa using hu
theorem box_free {w : World} {g : Nat} {cells : Array Value} {e : Nat} (hq : w.heap[g]? = some (.cells cells e (0, 0))) (j : Nat) : w.frozen? ⟨g, j, none⟩ = false := by
  simp [World.frozen?, hq]
theorem box_set {w : World} {g : Nat} {cells : Array Value} {e : Nat} (hq : w.heap[g]? = some (.cells cells e (0, 0))) (j : Nat) (u : Value) : (w.setCell ⟨g, j, none⟩ u).heap[g]? = some (.cells (cells.setIfInBounds j u) e (0, 0)) := by
  simp [World.setCell, Array.getElem?_modify, hq]

/-- The same, as a row of the call's own. -/
theorem Own.lit {α : Type} {d : Kd α} {w : World} {base : Nat} {F : Bl} {g : Nat} {cells : Array Value} {e : Nat} {xs : List α} (hh : w.heap[g]? = some (.cells cells e (0, 0))) (hb : base ≤ g) (hm : xs.length ≤ maxLen)
    (hr : Reps (d.K w (fun k => F k ∧ some k ≠ some g)) d.sz xs cells.toList) : Own d e w base F (.slice (some ⟨g, 0, none⟩) xs.length xs.length) xs := by
  have hl := hr.1
  rw [Array.length_toList] at hl
  exact ⟨cells.toList, ⟨by rw [Array.length_toList]; exact hl, .inr ⟨g, xs.length, cells, rfl, hb, hh, Nat.le_refl _, hm, hl, by rw [← hl, ← Array.length_toList, List.take_length]⟩⟩, hr⟩

theorem heap_new {w : World} {o : Obj} {g : Nat} (h : w.heap.size = g) : (w.alloc o).heap[g]? = some o := by subst h; exact heap_alloc_new w o

theorem grown_same {w w' : World} {row : Option Nat} {F : Bl} (hg : w.grownBy w' row) (hF : ∀ k, F k → k < w.heap.size ∧ some k ≠ row) : Same F w w' := fun k hk => hg.block k (hF k hk).1 (hF k hk).2
theorem alloc_same {F : Bl} (w : World) (o : Obj) (hF : ∀ k, F k → k < w.heap.size) : Same F w (w.alloc o) := fun k hk => heap_alloc_old w o (hF k hk)

section
variable {α : Type} {d : Kd α} {P : Program}
/-- What an append leaves. -/
theorem Own.appended {e base : Nat} {F : Bl} {w w1 : World} {v v1 : Value} {xs ys : List α} {inner cells : List Value} (hF : ∀ k, F k → k < w.heap.size)
    (hr : Reps (d.K w (fun k => F k ∧ some k ≠ v.ownBlock)) d.sz xs inner) (hy : Reps (d.K w (fun k => F k ∧ some k ≠ v.ownBlock)) d.sz ys cells)
    (ho : w1.ownsRow base e d.sz v1 (xs.length + ys.length) (inner ++ cells)) (hg : w.grownBy w1 v.ownBlock) (hat : v1.ownBlock = v.ownBlock ∨ ∃ g, v1.ownBlock = some g ∧ w.heap.size ≤ g) :
    Own d e w1 base F v1 (xs ++ ys) := by
  have hs : Same (fun k => F k ∧ some k ≠ v.ownBlock) w w1 := grown_same hg (fun k hk => ⟨hF k hk.1, hk.2⟩)
  have hm : ∀ k, (F k ∧ some k ≠ v.ownBlock) → (F k ∧ some k ≠ v1.ownBlock) := by
    intro k hk
    refine ⟨hk.1, ?_⟩
    rcases hat with h | ⟨g, h, hg2⟩
    · rw [h]; exact hk.2
    · rw [h]; intro he
      have := hF k hk.1
      injection he with he
      omega
  refine ⟨inner ++ cells, ?_, (hr.app hy).imp (fun x cs hk => d.more hm (d.move hs hk))⟩
  rw [List.length_append]; exact ho

/-- 'append(s, x)' of one element, which lies in a new block of its own. -/
theorem wpList_append_one {w : World} {ops : Array Oper} {rest : List Oper} {o : Oper} {a : Act} {Q : Exit → Act → World → Prop} (hgd : o.guard = none) (s x : Operand) (t : TypeId)
    (ho : o.op = .call { callee := .builtin .append, args := #[s, x], argTypes := #[t, t] })
    (d : Kd α) (e : TypeId) (i : TypeInfo) (z : Value) (bytes : Nat) (ht : P.underlying t = some (.slice e)) (hi : P.info? e = some i) (hz : i.zero = some z)
    (hsize : i.size = d.sz) (hby : i.bytes = bytes) (hzs : z.cells.size = d.sz) (hsz : 0 < d.sz) (hb0 : 0 < bytes)
    (base : Nat) (F : Bl) (v : Value) (xs : List α) (hs : a.eval s = v) (hown : Own d e w base F v xs) (hF : ∀ k, F k → k < w.heap.size)
    (y : α) (cs : Array Value) {g0 : Nat} (hx : a.eval x = .slice (some ⟨g0, 0, none⟩) 1 1) (hg0 : w.heap.size = g0) (hy : d.K w (fun k => F k ∧ some k ≠ v.ownBlock) y cs.toList)
    (hbytes : (xs.length + 1) * bytes ≤ 140737488355328) (hbase : base ≤ w.heap.size)
    (h : ∀ v' w', Own d e w' base F v' (xs ++ [y]) → w.grownBy w' v.ownBlock → (v'.ownBlock = v.ownBlock ∨ ∃ g, v'.ownBlock = some g ∧ w.heap.size < g) → wpList P ops Q rest (a.put o.dst v') w') :
    wpList P ops Q (o :: rest) a (w.alloc (.cells cs e)) := by
  subst hg0
  obtain ⟨inner, hoo, hr⟩ := hown
  have hlen := d.len hy
  have h1 : xs.length + 1 ≤ 140737488355328 := Nat.le_trans (Nat.le_mul_of_pos_right _ hb0) hbytes
  refine wpList_append_own_at (w.alloc (.cells cs e)) hgd s x t ho base e i z d.sz bytes ht hi hz hsize hby hzs hsz v xs.length inner hs (hoo.alloc _) ⟨w.heap.size, 0, none⟩ 1 1 cs.toList hx (by rw [hlen, Nat.one_mul]) ?_ (d.one hy) (by simp only [maxLen]; omega) hbytes (by simp; omega) ?_
  · intro j u hu
    have ha : (⟨w.heap.size, 0, none⟩ : Addr).add j = ⟨w.heap.size, j, none⟩ := by unfold Addr.add; split <;> simp_all
    rw [ha]
    have hh : (w.alloc (.cells cs e)).heap[w.heap.size]? = some (.cells cs e (0, 0)) := heap_alloc_new w _
    simp only [World.cell?, hh]
    simpa using hu
  · intro v' w' hown' hgrow _ hat
    have hg : w.grownBy w' v.ownBlock := World.grownBy.trans (World.grownBy_alloc w _ _) hgrow
    have hat' : v'.ownBlock = v.ownBlock ∨ ∃ g, v'.ownBlock = some g ∧ w.heap.size < g := by
      rcases hat with h | h
      · exact .inl h
      · exact .inr ⟨_, h, by simp⟩
    refine h v' w' (Own.appended (ys := [y]) hF hr ⟨by simp [hlen], fun i hi => ?_⟩ hown' hg ?_) hg hat'
    · have hi0 : i = 0 := by simp at hi; omega
      subst hi0
      simp only [Nat.zero_mul, List.drop_zero, List.getElem_cons_zero]
      rw [← hlen, List.take_length]; exact hy
    · rcases hat' with h | ⟨g, h, hg2⟩
      · exact .inl h
      · exact .inr ⟨g, h, by omega⟩

/-- The same inside a region that draws its order: for 'go_region_held3', 'go_region_law'. -/
theorem step_append_one {w W : World} {ops : Array Oper} {o : Oper} {a : Act} {K : Act → World → Prop} {Q : Exit → Act → World → Prop} {E : Prop} (hgd : o.guard = none) (s x : Operand) (t : TypeId)
    (ho : o.op = .call { callee := .builtin .append, args := #[s, x], argTypes := #[t, t] })
    (d : Kd α) (e : TypeId) (i : TypeInfo) (z : Value) (bytes : Nat) (ht : P.underlying t = some (.slice e)) (hi : P.info? e = some i) (hz : i.zero = some z)
    (hsize : i.size = d.sz) (hby : i.bytes = bytes) (hzs : z.cells.size = d.sz) (hsz : 0 < d.sz) (hb0 : 0 < bytes)
    (base : Nat) (F : Bl) (v : Value) (xs : List α) (hs : a.eval s = v) (hown : Own d e w base F v xs) (hF : ∀ k, F k → k < w.heap.size)
    (y : α) (cs : Array Value) {g0 : Nat} (hx : a.eval x = .slice (some ⟨g0, 0, none⟩) 1 1) (hg0 : w.heap.size = g0) (hy : d.K w (fun k => F k ∧ some k ≠ v.ownBlock) y cs.toList)
    (hbytes : (xs.length + 1) * bytes ≤ 140737488355328) (hbase : base ≤ w.heap.size) (hW : W = w.alloc (.cells cs e))
    (h : ∀ v' w', Own d e w' base F v' (xs ++ [y]) → w.grownBy w' v.ownBlock → (v'.ownBlock = v.ownBlock ∨ ∃ g, v'.ownBlock = some g ∧ w.heap.size < g) → K (a.put o.dst v') w') :
    if Region.wanted o (yielded ops a.tmps) = true then Oper.wp P o a W K Q else E := by
  subst hW
  have hw : Region.wanted o (yielded ops a.tmps) = true := by simp [Region.wanted, hgd]
  rw [if_pos hw]
  subst hg0
  obtain ⟨inner, hoo, hr⟩ := hown
  have hlen := d.len hy
  have h1 : xs.length + 1 ≤ 140737488355328 := Nat.le_trans (Nat.le_mul_of_pos_right _ hb0) hbytes
  refine wp_append_lies (w.alloc (.cells cs e)) s x t ho base e i z d.sz bytes ht hi hz hsize hby hzs hsz v xs.length inner hs (hoo.alloc _) ⟨w.heap.size, 0, none⟩ 1 1 cs.toList hx (by rw [hlen, Nat.one_mul]) ?_ (d.one hy) (by omega) (by simp only [maxLen]; omega) hbytes (by simp; omega) _ rfl ?_
  · intro j u hu
    have ha : (⟨w.heap.size, 0, none⟩ : Addr).add j = ⟨w.heap.size, j, none⟩ := by unfold Addr.add; split <;> simp_all
    rw [ha]
    have hh : (w.alloc (.cells cs e)).heap[w.heap.size]? = some (.cells cs e (0, 0)) := heap_alloc_new w _
    simp only [World.cell?, hh]
    simpa using hu
  · intro g cap w' hown' hgrow hat _
    have hg : w.grownBy w' v.ownBlock := World.grownBy.trans (World.grownBy_alloc w _ _) hgrow
    have hat' : (Value.slice (some ⟨g, 0, none⟩) (xs.length + 1) cap).ownBlock = v.ownBlock ∨ ∃ g', (Value.slice (some ⟨g, 0, none⟩) (xs.length + 1) cap).ownBlock = some g' ∧ w.heap.size < g' := by
      rcases hat with h | h
      · exact .inl h.symm
      · exact .inr ⟨g, rfl, by rw [h]; simp⟩
    refine h _ w' (Own.appended (ys := [y]) hF hr ⟨by simp [hlen], fun i hi => ?_⟩ hown' hg ?_) hg hat'
    · have hi0 : i = 0 := by simp at hi; omega
      subst hi0
      simp only [Nat.zero_mul, List.drop_zero, List.getElem_cons_zero]
      rw [← hlen, List.take_length]; exact hy
    · rcases hat' with h | ⟨g', h, hg2⟩
      · exact .inl h
      · exact .inr ⟨g', h, by omega⟩

/-- 'append(s, x...)' of a slice that is read, nil too. -/
theorem wpList_append_all {w : World} {ops : Array Oper} {rest : List Oper} {o : Oper} {a : Act} {Q : Exit → Act → World → Prop} (hgd : o.guard = none) (s x : Operand) (t : TypeId)
    (ho : o.op = .call { callee := .builtin .append, args := #[s, x], argTypes := #[t, t] })
    (d : Kd α) (e : TypeId) (i : TypeInfo) (z : Value) (bytes : Nat) (ht : P.underlying t = some (.slice e)) (hi : P.info? e = some i) (hz : i.zero = some z)
    (hsize : i.size = d.sz) (hby : i.bytes = bytes) (hzs : z.cells.size = d.sz) (hsz : 0 < d.sz) (hb0 : 0 < bytes)
    (base : Nat) (F : Bl) (v : Value) (xs : List α) (hs : a.eval s = v) (hown : Own d e w base F v xs) (hF : ∀ k, F k → k < w.heap.size)
    (ys : List α) (A : Option Addr) (c : Nat) (hx : a.eval x = .slice A ys.length c) (hy : Rd d w (fun k => F k ∧ some k ≠ v.ownBlock) A ys)
    (hbytes : (xs.length + ys.length) * bytes ≤ 140737488355328) (hbase : base ≤ w.heap.size)
    (h : ∀ v' w', Own d e w' base F v' (xs ++ ys) → w.grownBy w' v.ownBlock → (v'.ownBlock = v.ownBlock ∨ ∃ g, v'.ownBlock = some g ∧ w.heap.size ≤ g) → wpList P ops Q rest (a.put o.dst v') w') :
    wpList P ops Q (o :: rest) a w := by
  rcases Nat.eq_zero_or_pos ys.length with h0 | h0
  · have hy0 : ys = [] := List.eq_nil_of_length_eq_zero h0
    subst hy0
    have hrun : (Builtin.append_ #[t, t] o.type #[v, .slice A 0 c]).run P w = .ok v w := by
      obtain ⟨inner, hoo, hr⟩ := hown
      cases A with
      | none =>
        rcases hoo.2 with ⟨rfl, _⟩ | ⟨g, cap, cur, rfl, _, _, hnc, _⟩
        · simp [Builtin.append_, run_underlying ht, sizeOf, typeInfo, hi, Builtin.lenOf, Builtin.firstCells]
        · simp [Builtin.append_, run_underlying ht, sizeOf, typeInfo, hi, Builtin.lenOf, Builtin.firstCells, hnc, storeCells]
      | some ad =>
        rcases hoo.2 with ⟨rfl, _⟩ | ⟨g, cap, cur, rfl, _, _, hnc, _⟩
        · simp [Builtin.append_, run_underlying ht, sizeOf, typeInfo, hi, Builtin.lenOf, Builtin.firstCells, loadCells, loadCellsFrom]
        · simp [Builtin.append_, run_underlying ht, sizeOf, typeInfo, hi, Builtin.lenOf, Builtin.firstCells, hnc, storeCells, loadCells, loadCellsFrom]
    refine wpList_plain hgd fun K hK => ?_
    unfold Oper.wp execOp
    simp only [ho, resolve, invoke, builtin, Sem.run_bind, Sem.run_pure, Result.andThen_ok, List.map_toArray, List.map_cons, List.map_nil, hs, hx, List.length_nil, hrun]
    exact hK _ _ (h v w (by simpa using hown) (World.grownBy.refl w _) (.inl rfl))
  · obtain ⟨ad, rfl, _⟩ := hy.at 0 h0
    obtain ⟨inner, hoo, hr⟩ := hown
    have h1 : xs.length + ys.length ≤ 140737488355328 := Nat.le_trans (Nat.le_mul_of_pos_right _ hb0) hbytes
    -- the cells of the source
    have hex : ∀ n, n ≤ ys.length → ∃ cells, Reps (d.K w (fun k => F k ∧ some k ≠ v.ownBlock)) d.sz (ys.take n) cells ∧ ∀ j u, cells[j]? = some u → w.cell? (ad.add j) = some u := by
      intro n
      induction n with
      | zero => intro _; exact ⟨[], by simpa using Reps.nil _ _, fun j u hu => by simp at hu⟩
      | succ n ih =>
        intro hn
        obtain ⟨cells, hrp, hc⟩ := ih (by omega)
        obtain ⟨ad', he, _, cs, hK, hcs⟩ := hy.at n (by omega)
        injection he with he
        subst he
        refine ⟨cells ++ cs, ?_, ?_⟩
        · rw [List.take_succ_eq_append_getElem (by omega)]
          exact hrp.snoc hK (d.len hK)
        · have hcl : cells.length = n * d.sz := by rw [hrp.1, List.length_take, Nat.min_eq_left (by omega)]
          intro j u hu
          by_cases hj : j < cells.length
          · rw [List.getElem?_append_left hj] at hu
            exact hc j u hu
          · rw [List.getElem?_append_right (by omega)] at hu
            have := hcs _ u hu
            rw [show n * d.sz + (j - cells.length) = j by omega] at this
            exact this
    obtain ⟨cells, hrp, hc⟩ := hex ys.length (Nat.le_refl _)
    rw [List.take_length] at hrp
    have hone : ∀ u ∈ cells, u.oneCell' = true := by
      intro u hu
      obtain ⟨j, hj, rfl⟩ := List.getElem_of_mem hu
      have hl := hrp.1
      have hq : j / d.sz < ys.length := Nat.div_lt_of_lt_mul (by rw [Nat.mul_comm]; omega)
      have hmem := d.one (hrp.2 (j / d.sz) hq) cells[j] (by
        have hdm := Nat.div_add_mod j d.sz
        have hlt := Nat.mod_lt j hsz
        have e2 : ((cells.drop (j / d.sz * d.sz)).take d.sz)[j % d.sz]? = some cells[j] := by
          rw [List.getElem?_take, if_pos hlt, List.getElem?_drop, Nat.mul_comm, hdm, List.getElem?_eq_getElem hj]
        exact List.mem_of_getElem? e2)
      exact hmem
    refine wpList_append_own_at w hgd s x t ho base e i z d.sz bytes ht hi hz hsize hby hzs hsz v xs.length inner hs hoo ad ys.length c cells hx hrp.1 hc hone (by simp only [maxLen]; omega) hbytes hbase ?_
    intro v' w' hown' hgrow _ hat
    have hat' : v'.ownBlock = v.ownBlock ∨ ∃ g, v'.ownBlock = some g ∧ w.heap.size ≤ g := by
      rcases hat with h | h
      · exact .inl h
      · exact .inr ⟨_, h, Nat.le_refl _⟩
    exact h v' w' (Own.appended hF hr hrp hown' hgrow hat') hgrow hat'
end
end Go.Proofs.Ytnodcekkbbmfnaa.K
