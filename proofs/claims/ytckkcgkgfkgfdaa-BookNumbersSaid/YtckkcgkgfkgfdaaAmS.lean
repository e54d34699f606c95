/- A table of types, and that it is the program's. Plain words and laws; no condition. -/
import Derived.Test.YtckkcgkgfkgfdaaAmR
import Derived.KernelRfl
namespace Go.Proofs.Ytckkcgkgfkgfdaa.AM
def mkTI (P : Program) (t : Nat) : TI := ⟨(P.underlying t).getD .invalid, ((P.info? t).map (·.size)).getD 0, ((P.info? t).map (·.bytes)).getD 0, (P.info? t).bind (·.zero),
  (!(P.eqGuardType P.depth t)) && ((!(P.stoodInHeld t)) && match P.underlying t with | some (.struct fs) => fs.toList.all (·.name != "_") | _ => true)⟩
def okTI (P : Program) (t : Nat) : Bool := (P.underlying t).isSome && ((P.info? t).isSome && match (P.info? t).bind (·.zero) with | some z => z.cells.toList.all (·.oneCell') | none => true)
/-- The table that the program gives for the same numbers. -/
def retab (P : Program) : Tab → Tab
  | .nil => .nil
  | .node l k _ r => .node (retab P l) k (mkTI P k) (retab P r)
def okTab (P : Program) : Tab → Bool
  | .nil => true
  | .node l k _ r => okTI P k && (okTab P l && okTab P r)
theorem tget_re {P : Program} : ∀ {T : Tab} {t : TypeId} {i : TI}, okTab P T = true → tget (retab P T) t = some i → okTI P t = true ∧ i = mkTI P t
  | .nil, t, i, _, h => by simp [retab, tget] at h
  | .node l k j r, t, i, ho, h => by
    simp only [okTab, Bool.and_eq_true] at ho
    rw [retab, tget] at h
    cases hb : eqb k t with
    | true =>
      obtain rfl := eqb_eq hb
      rw [hb] at h
      dsimp only at h
      exact ⟨ho.1, by simpa using h.symm⟩
    | false =>
      rw [hb] at h
      dsimp only at h
      cases hl : leb k t with
      | true => rw [hl] at h; dsimp only at h; exact tget_re ho.2.2 h
      | false => rw [hl] at h; dsimp only at h; exact tget_re ho.2.1 h
theorem tabOk_of {P : Program} {T : Tab} (h : T = retab P T) (hc : okTab P T = true) : TabOk P T := fun t i hi => by
  rw [h] at hi
  obtain ⟨hok, rfl⟩ := tget_re hc hi
  simp only [okTI, Bool.and_eq_true] at hok
  obtain ⟨h1, h2, h3⟩ := hok
  obtain ⟨d, hd⟩ := Option.isSome_iff_exists.1 h1
  obtain ⟨f, hf⟩ := Option.isSome_iff_exists.1 h2
  refine ⟨by simp [mkTI, hd], f, hf, by simp [mkTI, hf], fun z hz c hcm => ?_, fun he => ?_⟩
  · have hz' : (P.info? t).bind (·.zero) = some z := by simpa [mkTI] using hz
    rw [hz'] at h3
    exact List.all_eq_true.1 h3 c hcm
  · have he' : ((!(P.eqGuardType P.depth t)) && ((!(P.stoodInHeld t)) && match P.underlying t with | some (.struct fs) => fs.toList.all (·.name != "_") | _ => true)) = true := he
    simp only [Bool.and_eq_true, Bool.not_eq_true'] at he'
    refine ⟨he'.1, he'.2.1, fun fs hfs g hg => ?_⟩
    have hdd : P.underlying t = some (.struct fs) := by
      rw [hd]
      have : d = .struct fs := by simpa [mkTI, hd] using hfs
      rw [this]
    have h4 := he'.2.2
    rw [hdd] at h4
    have := List.all_eq_true.1 h4 g hg
    simpa using this
def code (f : Func) : Code := f.body.getD .skip
end Go.Proofs.Ytckkcgkgfkgfdaa.AM
