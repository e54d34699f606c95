/- A law's arguments read as data, where their weights are told: a slice's elements times their bytes stay within reach. -/
import Derived.Test.YtckkcgkgfkgfdaaAmX
import Derived.SizedLaws
set_option linter.unusedVariables false
set_option linter.unusedSimpArgs false
namespace Go.Proofs.Ytckkcgkgfkgfdaa.AM
open Go.RowKit
section
variable {P : Program} {t : TypeId}
structure AOpW {α : Type} (P : Program) (t : TypeId) (sz : Nat) (enc : α → AV) (ok : α → Prop) : Prop where
  out : ∀ {H : Type} {en : TypeId × Value → H} {w : World} {spare : Nat → Bool} {held : Bool} {fuel : Nat} {cs : List Value} {x : DataW H × List MemPlace},
    DataW.trod en P w 0 spare held fuel t cs = some x → (∀ n ∈ x.1.weights P t, n ≤ reachBytes) → ∃ a, ok a ∧ AC w (enc a) cs ∧ cs.length = sz
theorem AOp.w {α : Type} {sz : Nat} {enc : α → AV} {ok : α → Prop} (h : AOp P t sz enc ok) : AOpW P t sz enc ok := ⟨fun hx _ => h.out hx⟩
theorem AOpW.map {α β : Type} {sz : Nat} {enc : α → AV} {ok : α → Prop} (h : AOpW P t sz enc ok) {enc' : β → AV} {ok' : β → Prop} (f : α → β) (he : ∀ a, enc' (f a) = enc a) (ho : ∀ a, ok a → ok' (f a)) : AOpW P t sz enc' ok' := by
  constructor
  intro H en w spare held fuel cs x hx hw
  obtain ⟨a, h1, h2, h3⟩ := h.out hx hw
  exact ⟨f a, ho a h1, by rw [he]; exact h2, h3⟩
theorem aopW_slice {α : Type} (z : α) {e : TypeId} {st : Nat} {enc : α → AV} {ok : α → Prop} (ht : P.underlying t = some (.slice e)) (hc : P.cellsOf e = st) (hst : 0 < st) (h : AOp P e st enc ok) :
    AOpW P t 1 (fun xs : List α => .mlist st false false α enc z xs) (fun xs => xs.length * P.bytesOf e ≤ reachBytes ∧ ∀ x ∈ xs, ok x) := by
  constructor
  intro H en w spare held fuel cs x hx hw
  obtain ⟨a, hok, hk, hl⟩ := (aop_slice z ht hc hst h).out hx
  refine ⟨a, ⟨?_, hok.2⟩, hk, hl⟩
  obtain ⟨us, hu1, _, sa, n, cap, hu, hn, _⟩ := hk.1
  rcases Go.Deep.open_slice ht hx with ⟨rfl, rfl⟩ | ⟨ad, len, cap', m, n', D, Pl, rfl, _, _, _, _, rfl, _⟩
  · simp only [List.headD_cons, Value.slice.injEq] at hu
    rw [← hu1, hn, ← hu.2.1, Nat.zero_mul]
    exact Nat.zero_le _
  · simp only [List.headD_cons, Value.slice.injEq] at hu
    have := hw ((((List.range len).map D).length + ((List.range (m - len)).map fun j => D (len + j)).length) * P.bytesOf e) (by simp [DataW.weights, ht])
    simp only [List.length_map, List.length_range] at this
    rw [← hu1, hn, ← hu.2.1]
    exact Nat.le_trans (Nat.mul_le_mul_right _ (Nat.le_add_right _ _)) this
structure AOpFW {α : Type} (P : Program) (fs : List Field) (off n : Nat) (encs : α → List AV) (ok : α → Prop) : Prop where
  out : ∀ {H : Type} {en : TypeId × Value → H} {w : World} {spare : Nat → Bool} {held : Bool} {k : Nat} {cs : List Value},
    cs.length = off + n → (∀ f ∈ fs, ∃ x, DataW.trod en P w 0 spare held k f.type ((cs.drop f.offset).take (P.cellsOf f.type)) = some x ∧ ∀ n ∈ x.1.weights P f.type, n ≤ reachBytes) → ∃ a, ok a ∧ VRs phi0 (held0 w) w (encs a) (cs.drop off) ∧ ∀ c ∈ cs.drop off, c.oneCell' = true
theorem aopFW_nil {off : Nat} : AOpFW P [] off 0 (fun _ : Unit => []) (fun _ => True) := by
  constructor
  intro H en w spare held k cs hl _
  have : cs.drop off = [] := List.drop_of_length_le (by omega)
  exact ⟨(), trivial, by rw [this]; rfl, fun c hc => by rw [this] at hc; cases hc⟩
theorem aopFW_cons {α β : Type} {f : Field} {fs : List Field} {off n : Nat} {enc : α → AV} {ok : α → Prop} {encs : β → List AV} {ok' : β → Prop} (ho : f.offset = off) (hc : P.cellsOf f.type = 1) (hna : ∀ a, (match enc a with | .agg _ => false | _ => true) = true) (h : AOpW P f.type 1 enc ok)
    (hr : AOpFW P fs (off + 1) n encs ok') : AOpFW P (f :: fs) off (n + 1) (fun x : α × β => enc x.1 :: encs x.2) (fun x => ok x.1 ∧ ok' x.2) := by
  constructor
  intro H en w spare held k cs hl hf
  obtain ⟨x, hx, hxw⟩ := hf f (by simp)
  rw [ho, hc] at hx
  obtain ⟨a, ha, hk, hk1⟩ := h.out hx hxw
  obtain ⟨b, hb, hk', hk2⟩ := hr.out (cs := cs) (by omega) (fun f' hf' => hf f' (by simp [hf']))
  have hsplit : cs.drop off = (cs.drop off).take 1 ++ cs.drop (off + 1) := by rw [← List.drop_drop, List.take_append_drop]
  match hcs : (cs.drop off).take 1, hk1 with
  | [u], _ =>
    rw [hcs] at hk hsplit
    refine ⟨(a, b), ⟨ha, hb⟩, ?_, fun c hc' => ?_⟩
    · rw [hsplit]
      refine ⟨u, _, rfl, ?_, hk'⟩
      have h1 := hk.1
      have h2 := hna a
      cases he : enc a <;> rw [he] at h1 h2 <;> first | exact h1 | cases h2
    · rw [hsplit] at hc'
      rcases List.mem_append.1 hc' with h1 | h1
      · exact hk.2.2 c h1
      · exact hk2 c h1
theorem aopW_struct {α : Type} {fs : Array Field} {sz : Nat} {encs : α → List AV} {ok : α → Prop} (ht : P.underlying t = some (.struct fs)) (hc : P.cellsOf t = sz) (h : AOpFW P fs.toList 0 sz encs ok) : AOpW P t sz (fun a => .agg (encs a)) ok := by
  constructor
  intro H en w spare held fuel cs x hx hw
  obtain ⟨xs, n, _, rfl, hl, hlen, hf⟩ := DataW.trod_struct ht hx
  obtain ⟨a, ha, hk, h1⟩ := h.out (H := H) (en := en) (w := w) (spare := spare) (held := held) (k := n) (cs := cs) (by omega) (fun f hmem => by
    obtain ⟨i, hi, rfl⟩ := List.getElem_of_mem hmem
    have hi' : i < fs.size := by simpa using hi
    have hx := hf i fs[i] (Array.getElem?_eq_getElem hi')
    have hlt : i < xs.length := by omega
    rw [List.getElem?_eq_getElem hlt] at hx
    have e : fs.toList[i] = fs[i] := by simp
    rw [e]
    refine ⟨_, hx, fun n hn => hw n ?_⟩
    show n ∈ (DataW.agg (xs.map (·.1))).weights P t
    simp only [DataW.weights, ht]
    exact DataW.weights_mem_each (j := i) (by simp [hi', List.getElem?_map]) (by simp [hlt]) n hn)
  rw [List.drop_zero] at hk h1
  exact ⟨a, ha, ⟨⟨cs, rfl, h1, hk⟩, trivial, h1⟩, by omega⟩
end
end Go.Proofs.Ytckkcgkgfkgfdaa.AM
