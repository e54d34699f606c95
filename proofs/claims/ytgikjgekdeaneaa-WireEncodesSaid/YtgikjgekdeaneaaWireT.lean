/- Wire: takers by hand. -/
import Derived.Test.YtgikjgekdeaneaaWireP
namespace Go.Proofs.Ytgikjgekdeaneaa.Wire
open Go.RowKit Go.Proofs.YtgikjgekdeaneaaW.PrintWords Go.Proofs.YtgikjgekdeaneaaW.PrintLast Go.Proofs.YtgikjgekdeaneaaW.PrintMore Go.Proofs.Ytgikjgekdeaneaa.Own
set_option linter.unusedVariables false
set_option linter.unusedSimpArgs false
attribute [local go_sem] max2_int min2_int max_two min_two
variable {lo : Nat}
/-- Bytes that are read, all of them in blocks from lo on, ahead of g. -/
def Bs (lo : Nat) (w : World) (g : Nat) (A : Option Addr) (l : List Int) : Prop := Kd.F (Kd.int .u8) w (fun k => lo ≤ k ∧ k < g) A l.length l
/-- A taker. -/
structure Tk (T : TypeId) (lo : Nat) (w : World) (g : Nat) (st : Option (List Int)) : Prop where
  out : ∃ A n c b, w.heap[g]? = some (.cells #[.slice A n c, .bool b] T (0, 0)) ∧ n ≤ c ∧ (∀ l, st = some l → b = false ∧ n = l.length ∧ Bytes l ∧ Bs lo w g A l) ∧ (st = none → b = true)
theorem Tk.bad {T : TypeId} {w : World} {g : Nat} (h : Tk T lo w g none) : ∃ A n c, w.heap[g]? = some (.cells #[.slice A n c, .bool true] T (0, 0)) ∧ n ≤ c := by
  obtain ⟨A, n, c, b, h1, h2, h3, h4⟩ := h.out
  rw [h4 rfl] at h1
  exact ⟨A, n, c, h1, h2⟩
theorem Tk.good {T : TypeId} {w : World} {g : Nat} {l : List Int} (h : Tk T lo w g (some l)) : ∃ A c, w.heap[g]? = some (.cells #[.slice A l.length c, .bool false] T (0, 0)) ∧ l.length ≤ c ∧ Bytes l ∧ Bs lo w g A l := by
  obtain ⟨A, n, c, b, h1, h2, h3, h4⟩ := h.out
  obtain ⟨e1, e2, h5, h6⟩ := h3 l rfl
  rw [e1, e2] at h1
  exact ⟨A, c, h1, by omega, h5, h6⟩
theorem Tk.mk_bad {T : TypeId} {w : World} {g n c : Nat} {A : Option Addr} (h : w.heap[g]? = some (.cells #[.slice A n c, .bool true] T (0, 0))) (hn : n ≤ c) : Tk T lo w g none := ⟨A, n, c, true, h, hn, (fun _ h => by cases h), (fun _ => rfl)⟩
theorem Tk.mk_good {T : TypeId} {w : World} {g c : Nat} {A : Option Addr} {l : List Int} (h : w.heap[g]? = some (.cells #[.slice A l.length c, .bool false] T (0, 0))) (hn : l.length ≤ c) (hb : Bytes l) (hf : Bs lo w g A l) : Tk T lo w g (some l) := ⟨A, l.length, c, false, h, hn, (fun _ h => by cases h; exact ⟨rfl, rfl, hb, hf⟩), (fun h => by cases h)⟩
theorem Bs.set {w : World} {g : Nat} {A : Option Addr} {l : List Int} (h : Bs lo w g A l) (i : Nat) (v : Value) : Bs lo (w.setCell ⟨g, i, none⟩ v) g A l := Kd.F_far h (p := ⟨g, i, none⟩) (fun _ hk => Nat.ne_of_lt hk.2) v
theorem Bs.ch {S : Nat → Prop} {w w1 : World} {g : Nat} {A : Option Addr} {l : List Int} (h : Bs lo w g A l) (hc : Ch S w w1) (hs : ∀ k, S k → g ≤ k) : Bs lo w1 g A l := hc.foot h (fun k hk hsk => Nat.lt_irrefl _ (Nat.lt_of_lt_of_le hk.2 (hs k hsk)))
theorem Tk.ch {T : TypeId} {S : Nat → Prop} {w w1 : World} {g : Nat} {st : Option (List Int)} (h : Tk T lo w g st) (hc : Ch S w w1) (hs : ∀ k, S k → g < k) : Tk T lo w1 g st := by
  obtain ⟨A, n, c, b, h1, h2, h3, h4⟩ := h.out
  exact ⟨A, n, c, b, hc.blk h1 (fun hk => Nat.lt_irrefl _ (hs g hk)), h2, fun l hl => ⟨(h3 l hl).1, (h3 l hl).2.1, (h3 l hl).2.2.1, (h3 l hl).2.2.2.ch hc (fun k hk => Nat.le_of_lt (hs k hk))⟩, h4⟩
theorem Tk.far {T : TypeId} {w : World} {g : Nat} {st : Option (List Int)} (h : Tk T lo w g st) {b i : Nat} (hb : g < b) (v : Value) : Tk T lo (w.setCell ⟨b, i, none⟩ v) g st := h.ch (S := one b) ((Ch.refl (one b) w).set (p := ⟨b, i, none⟩) (fun _ => rfl) v) (fun k hk => by rw [show k = b from hk]; exact hb)
theorem Tk.alloc {T : TypeId} {w : World} {g : Nat} {st : Option (List Int)} (h : Tk T lo w g st) (o : Obj) : Tk T lo (w.alloc o) g st := h.ch (S := none_) ((Ch.refl _ w).alloc o) (fun k hk => hk.elim)
theorem Tk.drewN {T : TypeId} {w : World} {g : Nat} {st : Option (List Int)} (h : Tk T lo w g st) (m : Nat) : Tk T lo (w.drewN m) g st := h.ch (S := none_) ((Ch.refl _ w).drewN m) (fun k hk => hk.elim)
theorem Tk.lt {T : TypeId} {w : World} {g : Nat} {st : Option (List Int)} (h : Tk T lo w g st) : g < w.heap.size := by
  obtain ⟨A, n, c, b, h1, _⟩ := h.out
  exact blk_lt h1
theorem Tk.below {T : TypeId} {w w1 : World} {g : Nat} {st : Option (List Int)} (h : Tk T lo w g st) (hb : Below w.heap.size w w1) : Tk T lo w1 g st := by
  obtain ⟨A, n, c, b, h1, h2, h3, h4⟩ := h.out
  exact ⟨A, n, c, b, blk_below h1 hb, h2, fun l hl => ⟨(h3 l hl).1, (h3 l hl).2.1, (h3 l hl).2.2.1, (h3 l hl).2.2.2.ch (Ch.of_below (S := none_) hb) (fun _ hk => hk.elim)⟩, h4⟩
theorem add_add_ (a : Addr) (s j : Nat) : (a.add s).add j = a.add (s + j) := by
  unfold Addr.add
  by_cases hs : s = 0
  · subst hs; simp
  · by_cases hj : j = 0
    · subst hj; simp
    · simp [hs, hj, Nat.add_assoc]
/-- Behind a take. -/
structure TkEnd (T : TypeId) (lo : Nat) (w : World) (g : Nat) (l : List Int) (s : Nat) : Prop where
  yes : 0 ≤ wrap64 (val (l.take s)) → Tk T lo w g (some (l.drop s))
  no : wrap64 (val (l.take s)) < 0 → Tk T lo w g none
/-- A cut's address. -/
def adv (A : Option Addr) (c s : Nat) : Option Addr := if c = s then A else A.map fun a => a.add s
theorem C_drop {w : World} {A : Option Addr} {l : List Int} {c s : Nat} (h : Kd.C (Kd.int .u8) w A l.length l) (hc : l.length ≤ c) (hs : s ≤ l.length) : Kd.C (Kd.int .u8) w (adv A c s) (l.drop s).length (l.drop s) := by
  obtain ⟨h1, h2, h3⟩ := h
  refine ⟨rfl, by simp; omega, fun hp => ?_⟩
  rw [List.length_drop] at hp
  obtain ⟨ad, rfl, hcell⟩ := h3 (by omega)
  refine ⟨ad.add s, by unfold adv; rw [if_neg (by omega)]; rfl, fun j p hj => ?_⟩
  rw [List.getElem?_drop] at hj
  obtain ⟨cs, hl, hk, hcc⟩ := hcell (s + j) p hj
  refine ⟨cs, hl, hk, fun i u hu => ?_⟩
  have := hcc i u hu
  rw [add_add_]
  have e : (s + j) * (Kd.int .u8).sz + i = s + (j * (Kd.int .u8).sz + i) := by show (s + j) * 1 + i = s + (j * 1 + i); omega
  rw [← e]
  exact this
theorem Bs.drop {w : World} {g : Nat} {A : Option Addr} {l : List Int} {c s : Nat} (h : Bs lo w g A l) (hc : l.length ≤ c) (hs : s ≤ l.length) : Bs lo w g (adv A c s) (l.drop s) := Foot.imp h (fun W' hW => C_drop hW hc hs)
theorem ret_max (x y : Int) (h : x = max y 0) : Ending.returned (.int .i64 x) = .returned (.int .i64 (max y 0)) := by rw [h]
set_option maxHeartbeats 8000000 in
set_option maxRecDepth 100000 in
theorem take_bad {g : Nat} (s : Nat) (w : World) (h : Tk 127 lo w g none) :
  Calls Try.prog 62 #[.pointer (some ⟨g, 0, none⟩), .int .i64 (s : Int)] w fun e w' => e = .returned (.int .i64 0) ∧ Tk 127 lo w' g none ∧ Ch (one g) w w' := by
 obtain ⟨A, n, c, hb, hn⟩ := h.bad
 have f0 := (blk_cell hb 0).trans rfl
 have f1 := (blk_cell hb 1).trans rfl
 have z1 := blk_frozen hb 1
 have HT := Aside0.mk hb
 clear hb h
 go_enter Try.func62, Try.ntmps62
 go_wp2
 go_ret
 exact ⟨rfl, Tk.mk_bad (blk_put HT.out 1 _ rfl) hn, (Ch.refl (one g) _).set (p := ⟨g, 1, none⟩) (fun _ => rfl) _⟩
set_option maxHeartbeats 8000000 in
set_option maxRecDepth 100000 in
theorem take_short {g : Nat} (s : Nat) (l : List Int) (w : World) (h : Tk 127 lo w g (some l)) (hs : l.length < s) :
  Calls Try.prog 62 #[.pointer (some ⟨g, 0, none⟩), .int .i64 (s : Int)] w fun e w' => e = .returned (.int .i64 0) ∧ Tk 127 lo w' g none ∧ Ch (one g) w w' := by
 obtain ⟨A, c, hb, hn, hB, hF⟩ := h.good
 have f0 := (blk_cell hb 0).trans rfl
 have f1 := (blk_cell hb 1).trans rfl
 have z1 := blk_frozen hb 1
 have HT := Aside0.mk hb
 have c0 := decide_eq_true hs
 clear hb h
 go_enter Try.func62, Try.ntmps62
 go_wp2
 go_ret
 exact ⟨rfl, Tk.mk_bad (blk_put HT.out 1 _ rfl) hn, (Ch.refl (one g) _).set (p := ⟨g, 1, none⟩) (fun _ => rfl) _⟩
set_option maxHeartbeats 8000000 in
set_option maxRecDepth 100000 in
theorem take_yes {g : Nat} (s : Nat) (l : List Int) (w : World) (h : Tk 127 lo w g (some l)) (hs : s ≤ l.length) (h8 : s ≤ 8) :
  Calls Try.prog 62 #[.pointer (some ⟨g, 0, none⟩), .int .i64 (s : Int)] w fun e w' => e = .returned (.int .i64 (max (wrap64 (val (l.take s))) 0)) ∧ TkEnd 127 lo w' g l s ∧ Ch (one g) w w' := by
 obtain ⟨A, c, hb, hn, hB, hF⟩ := h.good
 have f0 := (blk_cell hb 0).trans rfl
 have f1 := (blk_cell hb 1).trans rfl
 have z0 := blk_frozen hb 0
 have z1 := blk_frozen hb 1
 have HT := Aside0.mk hb
 have HF := Aside0.mk hF
 have c0 := decide_eq_false (show ¬ l.length < s by omega)
 clear hb h hF
 go_enter Try.func62, Try.ntmps62
 go_wp2
 go_loop [5, 31] (fun v5 v31 => ∃ i : Nat, i ≤ s ∧ v5 = .int .i64 (wrap64 (val (l.take i))) ∧ v31 = .int .i64 (i : Int)) (fun _ v31 => s - (intOf v31).toNat)
 case atStart => exact ⟨0, Nat.zero_le _, by simp [val, wrap64], rfl⟩
 case round =>
  obtain ⟨i, hi, rfl, rfl⟩ := hrel
  by_cases c1 : i < s
  · have c1b := decide_eq_true c1
    obtain ⟨ad, e1, hx⟩ := Kd.at_int (Kd.F_now HF.out) (i : Int) (by omega) (by omega)
    cases e1
    rw [Int.toNat_natCast] at hx
    have hv := val_lo (l.take i) (hB.take i)
    rw [List.length_take, Nat.min_eq_left (by omega)] at hv
    have hv1 : val (l.take i) < 72057594037927936 := by
      have : (256 : Int) ^ i ≤ 256 ^ 7 := by exact_mod_cast Nat.pow_le_pow_right (by decide) (show i ≤ 7 by omega)
      have h7 : (256 : Int) ^ 7 = 72057594037927936 := by decide
      omega
    have hb := hB.at_ i (by omega)
    have hor := Aside0.mk (or_byte (val (l.take i)) (rd l (i : Int)) hv.1 hv1 hb.1 hb.2)
    have hw : wrap64 (val (l.take i)) = val (l.take i) := i64_in _ (by omega) (by omega)
    rw [hw]
    have e1 : wrap64 ((i : Int) + 1) = (i : Int) + 1 := i64_in _ (by omega) (by omega)
    clear hw hv
    go_wp2
    go_round
    case rel => exact ⟨i + 1, by omega, by rw [hor.out, take_snoc l i (by omega), val_snoc], by go_num⟩
    case measure => simp [intOf]; omega
  · obtain rfl : i = s := by omega
    have c1b := decide_eq_false c1
    have q0 := eq_true (show (i : Int) ≤ (l.length : Int) by omega)
    have hF2 := HF.out.drop hn hs
    have hD : (l.drop i).length = l.length - i := List.length_drop
    by_cases hc : c = i
    · by_cases hg : wrap64 (val (l.take i)) < 0
      · have hgb := decide_eq_true hg
        have HC := Aside0.mk hc
        go_wp2
        go_ret
        exact ⟨ret_max _ _ (by omega), ⟨fun h => absurd h (by omega), fun _ => Tk.mk_bad (blk_put (blk_put HT.out 0 _ rfl) 1 _ rfl) (by omega)⟩, ((Ch.refl (one g) _).set (p := ⟨g, 0, none⟩) (fun _ => rfl) _).set (p := ⟨g, 1, none⟩) (fun _ => rfl) _⟩
      · have hgb := decide_eq_false hg
        have HC := Aside0.mk hc
        go_wp2
        go_ret
        exact ⟨ret_max _ _ (by omega), ⟨fun _ => Tk.mk_good (A := A) (c := 0) (by rw [hD]; exact blk_put (blk_put HT.out 0 _ rfl) 1 _ rfl) (by omega) (hB.drop i) (by have := hF2; unfold adv at this; rw [if_pos hc] at this; exact ((this.set 0 _).set 1 _)), fun h => absurd h (by omega)⟩, ((Ch.refl (one g) _).set (p := ⟨g, 0, none⟩) (fun _ => rfl) _).set (p := ⟨g, 1, none⟩) (fun _ => rfl) _⟩
    · by_cases hg : wrap64 (val (l.take i)) < 0
      · have hgb := decide_eq_true hg
        have q1 := eq_true (show (i : Int) ≤ (c : Int) by omega)
        have HC := Aside0.mk hc
        go_wp2
        go_ret
        exact ⟨ret_max _ _ (by omega), ⟨fun h => absurd h (by omega), fun _ => Tk.mk_bad (blk_put (blk_put HT.out 0 _ rfl) 1 _ rfl) (by omega)⟩, ((Ch.refl (one g) _).set (p := ⟨g, 0, none⟩) (fun _ => rfl) _).set (p := ⟨g, 1, none⟩) (fun _ => rfl) _⟩
      · have hgb := decide_eq_false hg
        have q1 := eq_true (show (i : Int) ≤ (c : Int) by omega)
        have HC := Aside0.mk hc
        go_wp2
        go_ret
        exact ⟨ret_max _ _ (by omega), ⟨fun _ => Tk.mk_good (c := c - i) (by rw [hD]; exact blk_put (blk_put HT.out 0 _ rfl) 1 _ rfl) (by omega) (hB.drop i) (by have := hF2; unfold adv at this; rw [if_neg hc] at this; exact ((this.set 0 _).set 1 _)), fun h => absurd h (by omega)⟩, ((Ch.refl (one g) _).set (p := ⟨g, 0, none⟩) (fun _ => rfl) _).set (p := ⟨g, 1, none⟩) (fun _ => rfl) _⟩
end Go.Proofs.Ytgikjgekdeaneaa.Wire
