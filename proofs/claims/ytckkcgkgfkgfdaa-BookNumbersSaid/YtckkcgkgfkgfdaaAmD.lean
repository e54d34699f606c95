/- What the operations that turn nothing mean in a world. Plain laws; no condition. -/
import Derived.Test.YtckkcgkgfkgfdaaAmC
import Derived.Laws.StructEq
namespace Go.Proofs.Ytckkcgkgfkgfdaa.AM
section
variable {φ : Phi} {H : Nat → Prop} {F : Fr} {w : World} {ob : List Ent} {nx : Nat} {P : Program} {T : Tab}
theorem run_value {s : Sem Value} {u : Value} {w' : World} (h : s.run P w = .ok u w') : ((do pure (Next.value (← s))) : Sem Next).run P w = .ok (.value u) w' := by
  simp [h]
theorem TabOk.und (hT : TabOk P T) {t : TypeId} {i : TI} (hi : tget T t = some i) : P.underlying t = some i.desc := (hT t i hi).1
theorem TabOk.inf (hT : TabOk P T) {t : TypeId} {i : TI} (hi : tget T t = some i) : ∃ f, P.info? t = some f ∧ f.size = i.size ∧ f.bytes = i.bytes ∧ f.zero = i.zero := by
  obtain ⟨_, f, h, h2, _⟩ := hT t i hi
  exact ⟨f, h, h2⟩
theorem TabOk.zone (hT : TabOk P T) {t : TypeId} {i : TI} (hi : tget T t = some i) {z : Value} (hz : i.zero = some z := by rfl) : ∀ c ∈ z.cells.toList, c.oneCell' = true := by
  obtain ⟨_, f, h, _, h2, _⟩ := hT t i hi
  exact h2 z hz
theorem TabOk.size (hT : TabOk P T) {t : TypeId} {i : TI} (hi : tget T t = some i) (w : World) : (sizeOf t).run P w = .ok i.size w := by
  obtain ⟨f, h, h2, _⟩ := hT.inf hi
  simp [sizeOf, typeInfo, h, h2]
theorem part_cells (hT : TabOk P T) {t : TypeId} {i : TI} (hi : tget T t = some i) {cs : List AV} {us : List Value} (hr : VRs φ H w cs us) (h1 : ∀ u ∈ us, u.oneCell' = true)
    {off : Nat} {v : AV} (hv : ofCells i cs off = some v) : ∃ y, (∀ w', (part t us.toArray off).run P w' = .ok y w') ∧ VR φ H w v y := by
  unfold ofCells at hv
  cases hd : isRow i.desc with
  | true =>
    rw [hd, cond_true] at hv
    cases hx : lsub cs off i.size with
    | none => simp [hx] at hv
    | some xs =>
      simp [hx] at hv
      obtain ⟨rfl, hle⟩ := lsub_some hx
      refine ⟨.agg ((us.drop off).take i.size).toArray, fun w' => ?_, ?_⟩
      · have hagg : (isAgg t).run P w' = .ok true w' := by
          unfold isAgg
          rw [Sem.run_bind, run_underlying (hT.und hi) w']
          cases hdd : i.desc <;> rw [hdd] at hd <;> first | rfl | (simp [isRow] at hd)
        simp [part, Sem.run_bind, hagg, hT.size hi]
      · rw [← hv]
        exact ⟨_, rfl, fun c hc => h1 c (List.mem_of_mem_drop (List.mem_of_mem_take hc)), vrs_take (vrs_drop hr off) i.size⟩
  | false =>
    rw [hd, cond_false] at hv
    have hv2 := lget_some hv
    have hlt := (List.getElem?_eq_some_iff.1 hv2).1
    obtain ⟨u, hu2, hvr⟩ := (vrs_get hr).2 off hlt
    have e : cs[off] = v := (List.getElem?_eq_some_iff.1 hv2).2
    rw [e] at hvr
    refine ⟨u, fun w' => ?_, hvr⟩
    have hagg : (isAgg t).run P w' = .ok false w' := by
      unfold isAgg
      rw [Sem.run_bind, run_underlying (hT.und hi) w']
      cases hdd : i.desc <;> rw [hdd] at hd <;> first | rfl | (simp [isRow] at hd)
    simp [part, Sem.run_bind, hagg, hu2]
theorem afield_ok (hT : TabOk P T) {t : TypeId} {f : Nat} {x : AV} {u : Value} (hu : VR φ H w x u) {cs : List Bool} {v : AV} (h : afield T t f x = some (cs, v)) :
    ∃ y, (Instr.field t u f).run P w = .ok y w ∧ VR φ H w v y := by
  unfold afield at h
  split at h
  · rename_i fs s b z q hi
    cases hf : lget fs.toList f with
    | none => simp [hf] at h
    | some g =>
      simp only [hf] at h
      cases hg : tget T g.type with
      | none => simp [hg] at h
      | some i =>
        simp only [hg] at h
        cases x <;> try (simp at h; done)
        case agg xs =>
          simp only at h
          cases hv : ofCells i xs g.offset with
          | none => simp [hv] at h
          | some v' =>
            simp [hv] at h
            obtain ⟨rfl, rfl⟩ := h
            obtain ⟨us, rfl, h1, hr⟩ := hu
            obtain ⟨y, hy, hvr⟩ := part_cells hT hg hr h1 hv
            refine ⟨y, ?_, hvr⟩
            have hf' : fs[f]? = some g := by simpa using lget_some hf
            have hund := hT.und hi
            simp [Instr.field, Sem.run_bind, run_underlying hund, hf', asAgg, hy]
  · simp at h
theorem addr_add (b o n : Nat) : (⟨b, o, none⟩ : Addr).add n = ⟨b, o + n, none⟩ := Addr.add_mid b o n
theorem afieldAddr_ok (hT : TabOk P T) {t : TypeId} {f : Nat} {x : AV} {u : Value} (hu : VR φ H w x u) {cs : List Bool} {v : AV} (h : afieldAddr T t f x = some (cs, v)) :
    ∃ y, (Instr.fieldAt t u f).run P w = .ok y w ∧ VR φ H w v y := by
  unfold afieldAddr at h
  split at h
  · rename_i fs s b z q hi
    cases hf : lget fs.toList f with
    | none => simp [hf] at h
    | some g =>
      simp only [hf] at h
      cases hg : tget T g.type with
      | none => simp [hg] at h
      | some i =>
        simp only [hg] at h
        cases hz : eqb i.size 0 with
        | true => simp [hz] at h
        | false =>
          have hz' : i.size ≠ 0 := fun e => by rw [e] at hz; cases hz
          rw [hz, cond_false] at h
          have hf' : fs[f]? = some g := by simpa using lget_some hf
          have hund := hT.und hi
          have run : ∀ ad : Addr, (Instr.fieldAt t (.pointer (some ad)) f).run P w = .ok (.pointer (some (ad.add g.offset))) w := fun ad => by
            simp [Instr.fieldAt, Sem.run_bind, run_underlying hund, hf', Instr.sureAddr, fieldPlace, hT.size hg, hz']
          cases x <;> try (simp at h; done)
          case ptr ix bs off =>
            simp at h
            obtain ⟨rfl, rfl⟩ := h
            obtain ⟨b, o, hp, rfl⟩ := hu
            exact ⟨_, run _, b, o, hp, by rw [addr_add, Nat.add_assoc]⟩
          case rptr ix bs st i off =>
            simp at h
            obtain ⟨rfl, rfl⟩ := h
            obtain ⟨b, o, hp, rfl⟩ := hu
            exact ⟨_, run _, b, o, hp, by rw [addr_add, Nat.add_assoc]⟩
          case hptr el st off =>
            simp at h
            obtain ⟨rfl, rfl⟩ := h
            obtain ⟨x, ad, h1, rfl, h3⟩ := hu
            exact ⟨_, run _, x, ad, h1, by rw [addr_add, Nat.add_assoc], h3⟩
  · simp at h
theorem inb_of {j : Int} {n : Nat} (h : real.inb j n = true) : 0 ≤ j ∧ j < n := by simpa [real] using h
theorem run_indexAt (hT : TabOk P T) {t e : TypeId} {s b : Nat} {z : Option Value} {q : Bool} {ei : TI} (hi : tget T t = some ⟨.slice e, s, b, z, q⟩) (he : tget T e = some ei) (ad : Addr) (n cap : Nat) (k : IntKind) (j : Int) (h0 : 0 ≤ j) (h1 : j < n) :
    (Instr.indexAt t (.slice (some ad) n cap) (.int k j)).run P w = .ok (.pointer (some (ad.add (j.toNat * ei.size)))) w := by
  have hund := hT.und hi
  simp [Instr.indexAt, asIntOf, Sem.run_bind, run_underlying hund, h0, h1, hT.size he]
theorem okst_of {st s : Nat} (h : okst st s = true) : st = s ∧ 0 < st := by
  unfold okst at h
  cases h0 : eqb st 0 with
  | true => simp [h0] at h
  | false =>
    rw [h0, cond_false] at h
    refine ⟨eqb_eq h, ?_⟩
    rcases Nat.eq_zero_or_pos st with e | e
    · rw [e] at h0; cases h0
    · exact e
theorem aindexAddr_ok (hT : TabOk P T) {t : TypeId} {x i : AV} {u y : Value} (hu : VR φ H w x u) (hy : VR φ H w i y) {cs : List Bool} {v : AV} (h : aindexAddr real T t x i = some (cs, v)) (hc : ∀ c ∈ cs, c = true) :
    ∃ z, (Instr.indexAt t u y).run P w = .ok z w ∧ VR φ H w v z := by
  -- an element of a row that stands
  have held : ∀ {e : TypeId} {s b : Nat} {z : Option Value} {q : Bool} {ei : TI} {k : IntKind} {j : Int} {gd full : Bool} {us : List Value} {u : Value} {el : AV},
      tget T t = some ⟨.slice e, s, b, z, q⟩ → tget T e = some ei → 0 < ei.size → 0 ≤ j → j.toNat < us.length → (∀ x, us[j.toNat]? = some x → VR φ H w el x) → SlR H w ei.size gd full us u →
      ∃ z, (Instr.indexAt t u (.int k j)).run P w = .ok z w ∧ VR φ H w (.hptr el ei.size 0) z := by
    intro e s b z q ei k j gd full us u el hi he hpos h0 h1 hel hsl
    obtain ⟨a, n, cap, rfl, hl, _, _, ho, hh, _⟩ := hsl
    obtain ⟨x, hx⟩ : ∃ x, us[j.toNat]? = some x := ⟨_, List.getElem?_eq_getElem h1⟩
    have hxm : x ∈ us := List.mem_of_getElem? hx
    rcases hh with hh | ⟨ad, rfl, hs, hH, hrg⟩
    · have h2 := fl_len ho
      rw [hh] at h2
      have : 0 < us.length * ei.size := Nat.mul_pos (by omega) hpos
      simp at h2
      omega
    · obtain ⟨bk, of, sp⟩ := ad
      obtain rfl : sp = none := hs
      refine ⟨_, run_indexAt hT hi he _ n cap k j h0 (by omega), x, ⟨bk, of + j.toNat * ei.size, none⟩, hel x hx, by rw [addr_add]; simp, fun y hy => ?_, rfl, hH, ?_⟩
      · obtain rfl : y = x := by simpa using hy
        exact ho y hxm
      · obtain ⟨r, hsp⟩ := fl_split ho hx
        have := range_drop hrg (j.toNat * ei.size)
        rw [hsp] at this
        exact range_left this
  unfold aindexAddr at h
  split at h
  · rename_i e s b z q l k j hi
    have hy : y = .int k j := hy
    subst hy
    cases he : tget T e with
    | none => simp [he] at h
    | some ei =>
      simp only [he] at h
      cases x <;> try (simp at h; done)
      case own ix bs st a n =>
        simp only at h
        cases hst : okst st ei.size with
        | false => simp [hst] at h
        | true =>
          simp [hst] at h
          obtain ⟨rfl, rfl⟩ := h
          obtain ⟨rfl, hpos⟩ := okst_of hst
          obtain ⟨h0, h1⟩ := inb_of (hc _ List.mem_cons_self)
          rcases hu with ⟨b, o, cap, N, M, hp, rfl, _⟩ | ⟨hn, _⟩
          · refine ⟨_, run_indexAt hT hi he _ n cap k j h0 h1, b, o, hp, ?_⟩
            rw [addr_add]
            simp only [real, Nat.add_zero]
            show Value.pointer (some ⟨b, o + a * ei.size + j.toNat * ei.size, none⟩) = Value.pointer (some ⟨b, o + (a + j.toNat) * ei.size, none⟩)
            rw [Nat.add_mul, Nat.add_assoc]
          · subst hn
            exact absurd h1 (by omega)
      case list st gd full l =>
        simp only at h
        cases hst : okst st ei.size with
        | false => simp [hst] at h
        | true =>
          simp [hst] at h
          obtain ⟨rfl, rfl⟩ := h
          obtain ⟨rfl, hpos⟩ := okst_of hst
          obtain ⟨h0, h1⟩ := inb_of (hc _ List.mem_cons_self)
          obtain ⟨us, hr, hsl⟩ := hu
          have hlen := vrs_len hr
          have hjn : j.toNat < l.length := by simp [real] at h1; omega
          refine held hi he hpos h0 (by omega) (fun x hx => ?_) hsl
          obtain ⟨x', hx', hvr⟩ := (vrs_get hr).2 j.toNat hjn
          rw [hx] at hx'
          cases hx'
          have : real.get l (real.i2n j) = l[j.toNat] := by simp [real, hjn]
          rw [this]; exact hvr
      case mlist st gd full α enc d l =>
        simp only at h
        cases hst : okst st ei.size with
        | false => simp [hst] at h
        | true =>
          simp [hst] at h
          obtain ⟨rfl, rfl⟩ := h
          obtain ⟨rfl, hpos⟩ := okst_of hst
          obtain ⟨h0, h1⟩ := inb_of (hc _ List.mem_cons_self)
          obtain ⟨us, hlen, hr, hsl⟩ := hu
          have hjn : j.toNat < l.length := by simp [real] at h1; omega
          refine held hi he hpos h0 (by omega) (fun x hx => ?_) hsl
          have hvr := hr j.toNat hjn
          have : real.nth α d l (real.i2n j) = l[j.toNat] := by simp [real, hjn]
          rw [this]
          simpa [List.getD, hx] using hvr
  · simp at h
end
end Go.Proofs.Ytckkcgkgfkgfdaa.AM
