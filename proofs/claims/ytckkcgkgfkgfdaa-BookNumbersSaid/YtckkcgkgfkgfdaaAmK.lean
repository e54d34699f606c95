/- What an append means in a world. Plain laws; no condition. -/
import Derived.Test.YtckkcgkgfkgfdaaAmJ
set_option linter.unusedVariables false
set_option linter.unusedSimpArgs false
namespace Go.Proofs.Ytckkcgkgfkgfdaa.AM
universe u
section
variable {φ : Phi} {H : Nat → Prop} {F : Fr} {w : World} {ob : List Ent} {nx : Nat} {P : Program} {T : Tab}
/-- A source of an append, in a world. -/
structure Src (φ : Phi) (H : Nat → Prop) (w : World) (ob : List Ent) (st lim : Nat) (x : AV) (u : Value) (xs : List AV) (m : Nat) : Prop where
  out : ∃ a c us, u = .slice a m c ∧ VRs φ H w xs us ∧ Ones st us ∧ us.length = m ∧ m ≤ lim ∧
    (m = 0 ∨ ∃ ad, a = some ad ∧ ad.spot = none ∧ w.rangeAt ad.block ad.off (fl us) ∧ (H ad.block ∨ ∃ en ∈ ob, sameIx x en.ix = true ∧ ∃ o, φ en.ix en.bs = some (ad.block, o)))
theorem seqList_len {c : AV} {l : List AV} (h : seqList real c = some l) : ∀ n, seqLen real c = some n → n = l.length := fun n hn => by
  cases c <;> simp [seqList, seqLen, real] at h hn
  · subst h; exact hn.symm
  · subst h; simp [hn]
theorem srcE_ok (hR : Rel φ H F ob nx w) {st lim : Nat} (hst : 0 < st) {x : AV} {u : Value} (hu : VR φ H w x u) {cs : List Bool} {xs : List AV} {m : Nat} (h : srcE real st lim x ob = some (cs, xs, m)) (hc : ∀ c ∈ cs, c = true) : Src φ H w ob st lim x u xs m := by
  refine ⟨?_⟩
  cases x <;> try (simp [srcE] at h; done)
  case val v =>
    have : u = v := hu
    subst this
    cases u <;> try (simp [srcE] at h; done)
    case slice a n c =>
      have hnil : a = none ∧ n = 0 ∧ c = 0 := by
        cases a with
        | some ad => simp [srcE] at h
        | none =>
          cases n with
          | succ n => simp [srcE] at h
          | zero =>
            cases c with
            | succ c => simp [srcE] at h
            | zero => exact ⟨rfl, rfl, rfl⟩
      obtain ⟨rfl, rfl, rfl⟩ := hnil
      simp [srcE] at h
      obtain ⟨rfl, rfl, rfl⟩ := h
      exact ⟨none, 0, [], rfl, rfl, fun _ h => (by cases h), rfl, Nat.zero_le _, .inl rfl⟩
  case own ix bs st2 i n =>
    simp only [srcE] at h
    cases hf : find ob ix with
    | none => simp [hf] at h
    | some en =>
      obtain ⟨ix', bs', o'⟩ := en
      obtain rfl : ix' = ix := (find_mem hf).2
      cases o' with
      | box => simp [hf] at h
      | row e st' c =>
        simp only [hf] at h
        cases h1 : eqb st st2 <;> simp only [h1, cond_false, cond_true, reduceCtorEq] at h
        cases h2 : eqb st st' <;> simp only [h2, cond_false, cond_true, reduceCtorEq] at h
        obtain rfl := eqb_eq h1
        obtain rfl := eqb_eq h2
        cases hl : seqList real c with
        | none => simp [hl] at h
        | some l =>
          simp [hl] at h
          obtain ⟨rfl, rfl, rfl⟩ := h
          have hb : bs = bs' := eqb_eq (hc _ List.mem_cons_self)
          have hle : i + n ≤ l.length := Nat.le_of_ble_eq_true (hc (real.nle (real.nadd i n) (real.len l)) (by simp))
          have hlim : n ≤ lim := Nat.le_of_ble_eq_true (hc (real.nle n lim) (by simp))
          subst hb
          rcases hu with ⟨b, o, cap, N, M, hp, rfl, _⟩ | ⟨rfl, a, rfl, _⟩
          · obtain ⟨els, us, h0, hr, h3, hrg⟩ := hR.row hf hp
            rw [hl] at h0
            cases h0
            have hlen := vrs_len hr
            refine ⟨_, _, (us.drop i).take n, rfl, vrs_take (vrs_drop hr i) n, ones_take (ones_drop h3 i) n, by simp; omega, hlim, .inr ⟨_, rfl, rfl, ?_, .inr ⟨_, (find_mem hf).1, by simp [sameIx], o, hp⟩⟩⟩
            rw [fl_take (ones_drop h3 i), fl_drop h3]
            exact range_take (range_drop hrg _) _
          · exact ⟨a, 0, [], rfl, by simp [real, VRs], fun _ h => (by cases h), rfl, Nat.zero_le _, .inl rfl⟩
  case list st2 gd full l =>
    simp only [srcE] at h
    cases h1 : eqb st st2 <;> simp only [h1, cond_false, cond_true, reduceCtorEq] at h
    obtain rfl := eqb_eq h1
    simp at h
    obtain ⟨rfl, rfl, rfl⟩ := h
    obtain ⟨us, hr, a, n, cap, rfl, hn, _, _, ho, hh, _⟩ := hu
    have hlen := vrs_len hr
    have hlim : l.length ≤ lim := Nat.le_of_ble_eq_true (hc _ List.mem_cons_self)
    have e : real.len l = n := by show l.length = n; omega
    rw [e]
    refine ⟨a, cap, us, rfl, hr, ho, hn, by omega, ?_⟩
    rcases hh with hh | ⟨ad, rfl, h2, h3, h4⟩
    · left
      have h5 := fl_len ho
      rw [hh] at h5
      rcases Nat.mul_eq_zero.1 h5.symm with h6 | h6 <;> omega
    · exact .inr ⟨ad, rfl, h2, h4, .inl h3⟩
  case mlist st2 gd full α enc d l =>
    simp only [srcE] at h
    cases h1 : eqb st st2 <;> simp only [h1, cond_false, cond_true, reduceCtorEq] at h
    obtain rfl := eqb_eq h1
    simp at h
    obtain ⟨rfl, rfl, rfl⟩ := h
    obtain ⟨us, hlen, hr, a, n, cap, rfl, hn, _, _, ho, hh, _⟩ := hu
    have hlim : l.length ≤ lim := Nat.le_of_ble_eq_true (hc _ List.mem_cons_self)
    have e : real.mlen α l = n := by show l.length = n; omega
    rw [e]
    refine ⟨a, cap, us, rfl, vrs_of (by simp [real, hlen]) fun i hi => ?_, ho, hn, by omega, ?_⟩
    · have hi' : i < l.length := by simpa [real] using hi
      have hi2 : i < us.length := by omega
      have := hr i hi'
      refine ⟨us[i], List.getElem?_eq_getElem hi2, ?_⟩
      simpa [real, List.getD, hi2] using this
    rcases hh with hh | ⟨ad, rfl, h2, h3, h4⟩
    · left
      have h5 := fl_len ho
      rw [hh] at h5
      rcases Nat.mul_eq_zero.1 h5.symm with h6 | h6 <;> omega
    · exact .inr ⟨ad, rfl, h2, h4, .inl h3⟩
/-- Nothing is appended. -/
theorem run_append_zero (hT : TabOk P T) {t e ty : TypeId} {s b : Nat} {z : Option Value} {q : Bool} {ei : TI} (hi : tget T t = some ⟨.slice e, s, b, z, q⟩) (he : tget T e = some ei) (a a2 : Option Addr) (n cap c : Nat) (hn : n ≤ cap) :
    (Builtin.append_ #[t, t] ty #[.slice a n cap, .slice a2 0 c]).run P w = .ok (.slice a n cap) w := by
  have hund := hT.und hi
  have hf : (Builtin.firstCells ei.size 0 (.slice a2 0 c)).run P w = .ok #[] w := by
    cases a2 with
    | none => exact run_firstCells_none ..
    | some ad => exact run_firstCells_some (P := P) w ei.size 0 ad 0 c [] (by simp) (by simp)
  cases a with
  | none => simp [Builtin.append_, run_underlying hund, hT.size he, Builtin.lenOf, hn, hf]
  | some ad => simp [Builtin.append_, run_underlying hund, hT.size he, Builtin.lenOf, hn, hf, storeCells]
/-- An append in place. -/
theorem run_append_at (hT : TabOk P T) {t e ty : TypeId} {s b : Nat} {z : Option Value} {q : Bool} {ei : TI} (hi : tget T t = some ⟨.slice e, s, b, z, q⟩) (he : tget T e = some ei) {g o n cap : Nat} {cur : Array Value} (hg : w.heap[g]? = some (.cells cur e (0, 0)))
    {a : Addr} {m c : Nat} {news : List Value} (hl : news.length = m * ei.size) (hnews : ∀ j u, news[j]? = some u → w.cell? (a.add j) = some u) (h1 : ∀ u ∈ news, u.oneCell' = true) (hroom : n + m ≤ cap) (hfit : o + n * ei.size + news.length ≤ cur.size) :
    (Builtin.append_ #[t, t] ty #[.slice (some ⟨g, o, none⟩) n cap, .slice (some a) m c]).run P w =
      .ok (.slice (some ⟨g, o, none⟩) (n + m) cap) (w.setRow g (cur.toList.take (o + n * ei.size) ++ news ++ cur.toList.drop (o + n * ei.size + news.length)).toArray) := by
  have hund := hT.und hi
  have hf := run_firstCells_some (P := P) w ei.size m a m c news hl hnews
  have hst := run_storeCells_at P g (o + n * ei.size) e news 0 cur w hg (by simpa using hfit) h1
  simp only [Nat.add_zero] at hst
  simp [Builtin.append_, run_underlying hund, hT.size he, Builtin.lenOf, hroom, hf, addr_add, hst]
theorem runT_mayShare_at (size n m : Nat) (bd ad : Addr) (c : Nat) (hv : Room.holdsV w bd (n * size) = true) (hf : w.frozen? (bd.add (n / 2 * size)) = false) (hne : bd.block ≠ ad.block) (hx : Room.holdsV w ad (m * size) = true) :
    (Builtin.mayShare size n m (some bd) (.slice (some ad) m c)).runT P w #[] = (.ok false w, #[]) := by
  simp [-Sem.runT_eq, Builtin.mayShare, Room.Sem.bind_def, frozen, Sem.bind, Sem.runT, Room.Sem.runT_bind, Room.runT_holdsCells', Room.Sem.runT_pure', hv, hx, hf, hne]
/-- An append that grows: a new row, or no room. -/
theorem run_append_new (hT : TabOk P T) {t e ty : TypeId} {s b : Nat} {z0 : Option Value} {q : Bool} {ei : TI} {z : Value} (hi : tget T t = some ⟨.slice e, s, b, z0, q⟩) (he : tget T e = some ei) (hz : ei.zero = some z) (hzs : z.cells.size = ei.size) (hb0 : 0 < ei.bytes)
    (bd : Option Addr) {n cap : Nat} {olds : List Value} (hol : olds.length = n * ei.size) (hbd : bd = none → n = 0 ∧ cap = 0) (hold : ∀ a, bd = some a → (∀ j v, olds[j]? = some v → w.cell? (a.add j) = some v) ∧ Room.holdsV w a (n * ei.size) = true ∧ w.frozen? (a.add (n / 2 * ei.size)) = false)
    {ad : Addr} {m c : Nat} {news : List Value} (hl : news.length = m * ei.size) (hnews : ∀ j u, news[j]? = some u → w.cell? (ad.add j) = some u) (hm : 0 < m) (hx : Room.holdsV w ad (m * ei.size) = true) (hap : (n + m) * ei.bytes ≤ 140737488355328) (hg : cap < n + m) :
    (∃ rest k, (Builtin.append_ #[t, t] ty #[.slice bd n cap, .slice (some ad) m c]).run P w = .ok (.slice (some ⟨w.heap.size, 0, none⟩) (n + m) k) (w.drew.alloc (.cells (olds ++ news ++ rest).toArray e)) ∧ n + m ≤ k ∧ (olds ++ news ++ rest).length = k * ei.size) := by
  have hund := hT.und hi
  obtain ⟨f, hf, hfs, hfb, hfz⟩ := hT.inf he
  rw [hz] at hfz
  have hp : Builtin.nextslicecap (n + m) cap * f.bytes ≤ 281474976710656 := growslice_fits hg (by rw [hfb]; exact hap)
  · have hnb : (n + m) * f.bytes ≤ 281474976710656 := Nat.le_trans (Nat.mul_le_mul_right _ (le_nextslicecap hg)) hp
    have h63 : ((n + m : Nat) : Int) ≤ 9223372036854775807 := by
      have : n + m ≤ (n + m) * f.bytes := Nat.le_mul_of_pos_right _ (by omega)
      omega
    have hge := grownCap_ge w (n + m) cap e
    have hzl : ∀ k, (Builtin.zeroCells z.cells k).toList.length = k * ei.size := fun k => by simp [size_zeroCells, hzs]
    refine ⟨(Builtin.zeroCells z.cells (grownCap w (n + m) cap e - (n + m))).toList, grownCap w (n + m) cap e, ?_, hge, ?_⟩
    · cases bd with
      | none =>
        obtain ⟨rfl, rfl⟩ := hbd rfl
        have ho : olds = [] := by simpa using hol
        subst ho
        have hr := run_append_nil (P := P) w t ty e f z hund hf hfz ad m c news (by rw [hfs]; exact hl) hnews hm (by simpa using h63) (by simpa using hnb)
        rw [Nat.zero_add]
        rw [hr]
        congr 3
        apply Array.ext'
        simp
      | some a =>
        obtain ⟨h1, h2, h3⟩ := hold a rfl
        have hr := run_append_grow (P := P) w t ty e f z hund hf hfz a n cap olds (by rw [hfs]; exact hol) h1 ad m c news (by rw [hfs]; exact hl) hnews hg h63 hp
        rw [hr]
        congr 3
        apply Array.ext'
        simp
    · rw [List.length_append, List.length_append, hol, hl, hzl, ← Nat.add_mul, ← Nat.add_mul]
      congr 1
      omega
theorem holds_of_range {ad : Addr} (hs : ad.spot = none) {cs : List Value} (h : w.rangeAt ad.block ad.off cs) (h0 : 0 < cs.length) : Room.holdsV w ad cs.length = true := by
  obtain ⟨bk, of, sp⟩ := ad
  obtain rfl : sp = none := hs
  have hlast := h (cs.length - 1) cs[cs.length - 1] (List.getElem?_eq_getElem (by omega))
  simp only [World.cell?] at hlast
  cases hh : w.heap[bk]? with
  | none => simp [hh] at hlast
  | some obj =>
    cases obj <;> simp [hh] at hlast
    rename_i cc ee fr
    have := (Array.getElem?_eq_some_iff.1 hlast).1
    simp [Room.holdsV, World.shape?, hh]
    omega
end
end Go.Proofs.Ytckkcgkgfkgfdaa.AM
