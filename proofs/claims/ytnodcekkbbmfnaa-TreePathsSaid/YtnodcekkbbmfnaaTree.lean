/- Package tree and its reference, walked: what each function computes, for every list and number. Lists of fewer than 2^43 nodes where a list is made. -/
import Derived.Outline
import Derived.Deep.LoopGhost
import Derived.Deep.QuietTactic
import Derived.BigQuiet
import Derived.StillTailTactics
import Derived.Test.YtnodcekkbbmfnaaProg
import Derived.Test.YtnodcekkbbmfnaaKA
namespace Go.Proofs.Ytnodcekkbbmfnaa.Tree
open Go.RowKit Go.Proofs.Ytnodcekkbbmfnaa.K
set_option linter.unusedVariables false

structure Node where
  parent : Int
  cap : Int
def kNode : Kd Node := Kd.iso (Kd.pair (Kd.int .i64) (Kd.int .i64)) (fun x => (x.parent, x.cap))
theorem kNode_flat : Flat kNode := flat_iso (flat_pair (flat_int _) (flat_int _))
def nd (l : List Node) (i : Int) : Node := l.getD i.toNat ⟨0, 0⟩
theorem kNode_open {w : World} {F : Bl} {x : Node} {cs : List Value} (h : kNode.K w F x cs) : cs = [.int .i64 x.parent, .int .i64 x.cap] := by
  obtain ⟨_, _, rfl, rfl, rfl⟩ := h
  exact rfl
theorem kNode_mk (w : World) (F : Bl) (x : Node) : kNode.K w F x [.int .i64 x.parent, .int .i64 x.cap] := ⟨[_], [_], rfl, rfl, rfl⟩
theorem nd_nat (l : List Node) (i : Nat) (h : i < l.length) : nd l i = l[i] := by simp [nd, h]
theorem at_Node {w : World} {F : Bl} {A : Option Addr} {xs : List Node} (h : Rd kNode w F A xs) (i : Int) (h0 : 0 ≤ i) (h1 : i < xs.length) : ∃ ad, A = some ad ∧ w.cell? (ad.add (i.toNat * 2)) = some (.int .i64 (nd xs i).parent) ∧ w.cell? ⟨(ad.add (i.toNat * 2)).block, (ad.add (i.toNat * 2)).off + 1, none⟩ = some (.int .i64 (nd xs i).cap) := by
  obtain ⟨ad, e, _, cs, hK, hc⟩ := h.at i.toNat (by omega)
  have hn : nd xs i = xs[i.toNat]'(by omega) := by simp [nd, show i.toNat < xs.length by omega]
  rw [← hn] at hK
  obtain rfl := kNode_open hK
  refine ⟨ad, e, hc 0 _ rfl, ?_⟩
  have h2 := hc 1 _ rfl
  have e2 : ad.add (i.toNat * 2 + 1) = ⟨(ad.add (i.toNat * 2)).block, (ad.add (i.toNat * 2)).off + 1, none⟩ := by
    rw [← add_add]; simp [Addr.add]
  rw [← e2]; exact h2

theorem ret_int {k : IntKind} {a b : Int} (h : a = b) : Ending.returned (.int k a) = .returned (.int k b) := by rw [h]
theorem info_int : (Try.prog.info? 3).map (fun i => (i.zero, i.size, i.bytes)) = some (some (.int .i64 0), 1, 8) := by kernel_rfl
theorem info_node : (Try.prog.info? 43).map (fun i => (i.zero, i.size, i.bytes)) = some (some (.agg #[(.int .i64 0), (.int .i64 0)]), 2, 16) := by kernel_rfl
theorem info_rnode : (Try.prog.info? 68).map (fun i => (i.zero, i.size, i.bytes)) = some (some (.agg #[(.int .i64 0), (.int .i64 0)]), 2, 16) := by kernel_rfl

/-! ### the way up -/
def climbF (l : List Node) : Nat → Int → List Int × Bool
  | k, n => if 0 ≤ n ∧ n < l.length then (match k with
    | 0 => ([], false)
    | k + 1 => (n :: (climbF l k (nd l n).parent).1, (climbF l k (nd l n).parent).2)) else ([], true)
def pathF (l : List Node) (n : Int) : List Int := (climbF l 3 n).1
theorem climb_out {l : List Node} {k : Nat} {n : Int} (h : ¬ (0 ≤ n ∧ n < l.length)) : climbF l k n = ([], true) := by
  unfold climbF; rw [if_neg h]
theorem climb_full {l : List Node} {n : Int} (h : 0 ≤ n ∧ n < l.length) : climbF l 0 n = ([], false) := by
  unfold climbF; rw [if_pos h]
theorem climb_more {l : List Node} {k : Nat} {n : Int} (h : 0 ≤ n ∧ n < l.length) : climbF l (k + 1) n = (n :: (climbF l k (nd l n).parent).1, (climbF l k (nd l n).parent).2) := by
  rw [climbF, if_pos h]

set_option maxHeartbeats 1000000 in
theorem climb_any (F : Bl) (A : Option Addr) (c : Nat) (l : List Node) (n : Int) (w : World) (hr : Rd kNode w F A l) :
    Calls Try.prog 60 #[.slice A l.length c, .int .i64 n] w fun e w' => ∃ v, e = .returned (.tuple #[v, .bool (climbF l 3 n).2]) ∧ Own (Kd.int .i64) 3 w' w.heap.size (fun _ => False) v (climbF l 3 n).1 ∧ Below w.heap.size w w' := by
  have HR := Lib.hid hr
  clear hr
  obtain ⟨i0, hi, hz0, hz1, hz2⟩ := info_parts info_int
  have HI := Lib.hid (And.intro hi (And.intro hz0 (And.intro hz1 hz2)))
  clear hi hz0 hz1 hz2
  have hl := HR.out.len
  go_enter Try.func60, Try.ntmps60
  go_wp2
  go_loopg [1, 6] (4 : Nat) (fun g v1 v6 wr => ∃ (m : Int) (out : List Int) (k : Nat), v1 = .int .i64 m ∧ Hid (out.length + k = 3 ∧ g = k + 1) ∧ Hid (climbF l 3 n = (out ++ (climbF l k m).1, (climbF l k m).2)) ∧ Hid (Own (Kd.int .i64) 3 wr w.heap.size (fun _ => False) v6 out) ∧ Hid (Below w.heap.size w wr))
  case atStart => exact ⟨n, [], 3, rfl, Lib.hid ⟨rfl, rfl⟩, Lib.hid rfl, Lib.hid (Own.nil _ _ _ _ _), Lib.hid (Below.refl _ _)⟩
  case round =>
    obtain ⟨m, out, k, rfl, HG, HC, HO, HB⟩ := hrel
    obtain ⟨A6, c6, rfl, hc6⟩ := HO.out.slice
    by_cases hin : 0 ≤ m ∧ m < l.length
    · obtain ⟨h0, h1⟩ := hin
      cases k with
      | zero =>
        have h3 : (3 : Int) ≤ out.length := by have := HG.out.1; omega
        have HE : Hid (climbF l 3 n = (out, false)) := Lib.hid (by rw [HC.out, climb_full ⟨h0, h1⟩]; simp)
        go_wp2
        go_ret2
        rw [HE.out]
        exact ⟨_, rfl, HO.out, HB.out⟩
      | succ k =>
        have h3 : (out.length : Int) < 3 := by have := HG.out.1; omega
        have HE : Hid (climbF l (k + 1) m = (m :: (climbF l k (nd l m).parent).1, (climbF l k (nd l m).parent).2)) := Lib.hid (climb_more ⟨h0, h1⟩)
        obtain ⟨ad, rfl, hc1, hc2⟩ := at_Node HR.out m h0 h1
        clear hc2
        have HX := Lib.hid hc1
        clear hc1
        have hB := HB.out.size
        go_wp2_with (at_builtin; (refine wpList_append_one (w := wr) rfl _ _ 37 rfl (Kd.int .i64) 3 i0 (.int .i64 0) 8 Try.underlying37 HI.out.1 HI.out.2.1 HI.out.2.2.1 HI.out.2.2.2 rfl (by decide) (by decide) w.heap.size (fun _ => False) (.slice A6 out.length c6) out rfl HO.out (fun k h => h.elim) m #[.int .i64 m] rfl rfl rfl (by omega) hB ?_); intro v' w1 hown hgrow hat; (have HB1 := Lib.hid (HB.out.grown hgrow hB (fun k hk => (HO.out.lt k hk).1))); have HO1 := Lib.hid hown; clear hown hgrow hat; (have hx := (HB1.out.cell (cell_lt HX.out)).trans HX.out))
        go_roundg (k + 1)
        case measure => have := HG.out.2; omega
        case rel => exact ⟨(nd l m).parent, out ++ [m], k, rfl, Lib.hid ⟨by have := HG.out.1; simp; omega, rfl⟩, Lib.hid (by rw [HC.out, HE.out]; simp), HO1, HB1⟩
    · have HE : Hid (climbF l 3 n = (out, true)) := Lib.hid (by rw [HC.out, climb_out hin]; simp)
      by_cases h0 : 0 ≤ m
      · have h1 : ¬ m < l.length := fun h => hin ⟨h0, h⟩
        clear hin
        go_wp2
        go_ret2
        rw [HE.out]
        exact ⟨_, rfl, HO.out, HB.out⟩
      · clear hin
        go_wp2
        go_ret2
        rw [HE.out]
        exact ⟨_, rfl, HO.out, HB.out⟩
set_option maxHeartbeats 1000000 in
theorem path_any (F : Bl) (A : Option Addr) (c : Nat) (l : List Node) (n : Int) (w : World) (hr : Rd kNode w F A l) :
    Calls Try.prog 29 #[.slice A l.length c, .int .i64 n] w fun e w' => ∃ v, e = .returned v ∧ Own (Kd.int .i64) 3 w' w.heap.size (fun _ => False) v (pathF l n) ∧ Below w.heap.size w w' := by
  have HR := Lib.hid hr
  clear hr
  obtain ⟨i0, hi, hz0, hz1, hz2⟩ := info_parts info_int
  have HI := Lib.hid (And.intro hi (And.intro hz0 (And.intro hz1 hz2)))
  clear hi hz0 hz1 hz2
  have hl := HR.out.len
  go_enter Try.func29, Try.ntmps29
  go_wp2
  go_loopg [1, 5] (4 : Nat) (fun g v1 v6 wr => ∃ (m : Int) (out : List Int) (k : Nat), v1 = .int .i64 m ∧ Hid (out.length + k = 3 ∧ g = k + 1) ∧ Hid (pathF l n = out ++ (climbF l k m).1) ∧ Hid (Own (Kd.int .i64) 3 wr w.heap.size (fun _ => False) v6 out) ∧ Hid (Below w.heap.size w wr))
  case atStart => exact ⟨n, [], 3, rfl, Lib.hid ⟨rfl, rfl⟩, Lib.hid rfl, Lib.hid (Own.nil _ _ _ _ _), Lib.hid (Below.refl _ _)⟩
  case round =>
    obtain ⟨m, out, k, rfl, HG, HC, HO, HB⟩ := hrel
    obtain ⟨A6, c6, rfl, hc6⟩ := HO.out.slice
    by_cases hin : 0 ≤ m ∧ m < l.length
    · obtain ⟨h0, h1⟩ := hin
      cases k with
      | zero =>
        have h3 : ¬ (out.length : Int) < 3 := by have := HG.out.1; omega
        have HE : Hid (pathF l n = out) := Lib.hid (by rw [HC.out, climb_full ⟨h0, h1⟩]; simp)
        go_wp2
        go_ret
        rw [HE.out]
        exact ⟨_, rfl, HO.out, HB.out⟩
      | succ k =>
        have h3 : (out.length : Int) < 3 := by have := HG.out.1; omega
        have HE : Hid (climbF l (k + 1) m = (m :: (climbF l k (nd l m).parent).1, (climbF l k (nd l m).parent).2)) := Lib.hid (climb_more ⟨h0, h1⟩)
        obtain ⟨ad, rfl, hc1, hc2⟩ := at_Node HR.out m h0 h1
        clear hc2
        have HX := Lib.hid hc1
        clear hc1
        have hB := HB.out.size
        go_wp2_with (at_builtin; refine wpList_append_one (w := wr) rfl _ _ 37 rfl (Kd.int .i64) 3 i0 (.int .i64 0) 8 Try.underlying37 HI.out.1 HI.out.2.1 HI.out.2.2.1 HI.out.2.2.2 rfl (by decide) (by decide) w.heap.size (fun _ => False) (.slice A6 out.length c6) out rfl HO.out (fun k h => h.elim) m #[.int .i64 m] rfl rfl rfl (by omega) hB ?_; intro v' w1 hown hgrow hat; have HB1 := Lib.hid (HB.out.grown hgrow hB (fun k hk => (HO.out.lt k hk).1)); have HO1 := Lib.hid hown; clear hown hgrow hat; have hx := (HB1.out.cell (cell_lt HX.out)).trans HX.out)
        go_roundg (k + 1)
        case measure => have := HG.out.2; omega
        case rel => exact ⟨(nd l m).parent, out ++ [m], k, rfl, Lib.hid ⟨by have := HG.out.1; simp; omega, rfl⟩, Lib.hid (by rw [HC.out, HE.out]; simp), HO1, HB1⟩
    · have HE : Hid (pathF l n = out) := Lib.hid (by rw [HC.out, climb_out hin]; simp)
      by_cases h0 : 0 ≤ m
      · have h1 : ¬ m < l.length := fun h => hin ⟨h0, h⟩
        clear hin
        go_wp2
        go_ret
        rw [HE.out]
        exact ⟨_, rfl, HO.out, HB.out⟩
      · clear hin
        go_wp2
        go_ret
        rw [HE.out]
        exact ⟨_, rfl, HO.out, HB.out⟩

theorem pathF_len (l : List Node) (n : Int) : ((pathF l n).length : Int) ≤ 3 := by
  have h : ∀ k m, ((climbF l k m).1.length) ≤ k := by
    intro k
    induction k with
    | zero => intro m; unfold climbF; split <;> simp
    | succ k ih => intro m; unfold climbF; split <;> simp [ih]
  have := h 3 n
  unfold pathF; omega
theorem rpath_any (F : Bl) (A : Option Addr) (c : Nat) (l : List Node) (n : Int) (w : World) (hr : Rd kNode w F A l) :
    Calls Try.prog 31 #[.slice A l.length c, .int .i64 n] w fun e w' => ∃ v, e = .returned v ∧ Own (Kd.int .i64) 3 w' w.heap.size (fun _ => False) v (pathF l n) ∧ Below w.heap.size w w' := by
  have HR := Lib.hid hr
  clear hr
  go_enter Try.func31, Try.ntmps31
  go_wp2_with (go_at_call 60; refine (climb_any F _ _ _ _ _ HR.out).mono ?_; rintro e w' ⟨v, rfl, hO, hB⟩)
  go_ret
  exact ⟨_, rfl, hO, hB⟩

theorem level_any (F : Bl) (A : Option Addr) (c : Nat) (l : List Node) (n : Int) (w : World) (hr : Rd kNode w F A l) :
    Calls Try.prog 32 #[.slice A l.length c, .int .i64 n] w fun e w' => e = .returned (.int .i64 ((pathF l n).length - 1)) ∧ Below w.heap.size w w' := by
  have HR := Lib.hid hr
  clear hr
  go_enter Try.func32, Try.ntmps32
  have hp := pathF_len l n
  go_wp2_with (go_at_call 29; refine (path_any F _ _ _ _ _ HR.out).mono ?_; rintro e w' ⟨v, rfl, hO, hB⟩; obtain ⟨A6, c6, rfl, hc6⟩ := hO.slice)
  go_ret
  exact ⟨rfl, hB⟩

/-! ### the same numbers -/
def iat (l : List Int) (i : Nat) : Int := l.getD i 0
theorem iat_get {l : List Int} {i : Nat} (h : i < l.length) : iat l i = l[i] := by simp [iat, h]
theorem at_int {k : IntKind} {w : World} {F : Bl} {A : Option Addr} {xs : List Int} (h : Rd (Kd.int k) w F A xs) (i : Nat) (hi : i < xs.length) : ∃ ad, A = some ad ∧ w.cell? (ad.add i) = some (.int k (iat xs i)) := by
  obtain ⟨ad, e, _, cs, hK, hc⟩ := h.at i hi
  obtain rfl : cs = [.int k xs[i]] := hK
  refine ⟨ad, e, ?_⟩
  have h2 := hc 0 _ rfl
  rw [show i * (Kd.int k).sz + 0 = i from by show i * 1 + 0 = i; omega] at h2
  rw [h2, iat_get hi]

theorem quiet_below (w : World) (n : Nat) (B : Nat) : Below B w (w.drewN n) := ⟨rfl, rfl, rfl, by simp, fun _ _ => rfl⟩
def eqFrom (a b : List Int) (i : Nat) : Bool := a.drop i == b.drop i
theorem eqFrom_ne {a b : List Int} {i : Nat} (ha : i < a.length) (hb : i < b.length) (h : iat a i ≠ iat b i) : eqFrom a b i = false := by
  rw [iat_get ha, iat_get hb] at h
  unfold eqFrom
  rw [List.drop_eq_getElem_cons ha, List.drop_eq_getElem_cons hb]
  rw [List.cons_beq_cons, beq_eq_false_iff_ne.2 h, Bool.false_and]
theorem eqFrom_eq {a b : List Int} {i : Nat} (ha : i < a.length) (hb : i < b.length) (h : iat a i = iat b i) : eqFrom a b i = eqFrom a b (i + 1) := by
  rw [iat_get ha, iat_get hb] at h
  unfold eqFrom
  conv => lhs; rw [List.drop_eq_getElem_cons ha, List.drop_eq_getElem_cons hb]
  rw [List.cons_beq_cons, beq_iff_eq.2 h, Bool.true_and]

set_option maxHeartbeats 1000000 in
theorem ints_any (F F' : Bl) (A B : Option Addr) (c c' : Nat) (a b : List Int) (w : World) (ha : Rd (Kd.int .i64) w F A a) (hb : Rd (Kd.int .i64) w F' B b) :
    Calls Try.prog 30 #[.slice A a.length c, .slice B b.length c'] w fun e w' => e = .returned (.bool (a == b)) ∧ Below w.heap.size w w' := by
  have HA := Lib.hid ha
  have HB := Lib.hid hb
  clear ha hb
  have hla := HA.out.len
  have hlb := HB.out.len
  by_cases hl : a.length = b.length
  · have hne : ((a.length : Int) != (b.length : Int)) = false := by simp [hl]
    have HL := Lib.hid hl
    clear hl
    go_enter Try.func30, Try.ntmps30
    go_wp2
    go_loopg [5] (a.length + 1 : Nat) (fun g v wr => ∃ i : Nat, v = .int .i64 i ∧ Hid (i ≤ a.length ∧ g = a.length + 1 - i) ∧ Hid ((a == b) = eqFrom a b i) ∧ Hid (Below w.heap.size w wr))
    case atStart => exact ⟨0, rfl, Lib.hid ⟨by omega, rfl⟩, Lib.hid (by simp [eqFrom]), Lib.hid (Below.refl _ _)⟩
    case round =>
      obtain ⟨i, rfl, HG, HE, HW⟩ := hrel
      by_cases hlt : i < a.length
      · have hi0 : (i : Int) < a.length := by omega
        have hi1 : (i : Int) < b.length := by have := HL.out; omega
        obtain ⟨ad, rfl, hx⟩ := at_int HA.out i hlt
        obtain ⟨bd, rfl, hy⟩ := at_int HB.out i (by omega)
        replace hx := (HW.out.cell (cell_lt hx)).trans hx
        replace hy := (HW.out.cell (cell_lt hy)).trans hy
        by_cases hv : iat a i = iat b i
        · have HV := Lib.hid hv
          have hv2 : (iat a i != iat b i) = false := by simp [hv]
          clear hv
          go_wp2
          go_quiet (fail)
          go_wp2
          go_roundg (a.length - i)
          case measure => have := HG.out.2; omega
          case rel => exact ⟨i + 1, by go_num, Lib.hid ⟨by omega, by omega⟩, Lib.hid (by rw [HE.out, eqFrom_eq hlt (by omega) HV.out]), Lib.hid (HW.out.trans (quiet_below _ _ _))⟩
        · have HV := Lib.hid hv
          have hv2 : (iat a i != iat b i) = true := by simpa using hv
          have HF : Hid ((a == b) = false) := Lib.hid (by rw [HE.out, eqFrom_ne hlt (by omega) hv])
          clear hv
          go_wp2
          go_quiet (fail)
          go_wp2
          go_ret
          rw [HF.out]
          exact ⟨rfl, HW.out.trans (quiet_below _ _ _)⟩
      · have HF : Hid ((a == b) = true) := Lib.hid (by
          rw [HE.out]; unfold eqFrom
          rw [List.drop_eq_nil_of_le (by omega), List.drop_eq_nil_of_le (by have := HL.out; omega)]; rfl)
        go_wp2
        go_ret
        rw [HF.out]
        exact ⟨rfl, HW.out⟩
  · have hne : ((a.length : Int) != (b.length : Int)) = true := by simpa using fun h : (a.length : Int) = b.length => hl (by omega)
    have HF : Hid ((a == b) = false) := Lib.hid (beq_eq_false_iff_ne.2 fun h => hl (by rw [h]))
    clear hl
    go_enter Try.func30, Try.ntmps30
    go_wp2
    go_ret
    rw [HF.out]
    exact ⟨rfl, Below.refl _ _⟩

/-! ### what is wrong with a tree -/
def wrongF (n : Node) (many : Int) : Int := if n.parent ≠ -1 ∧ (n.parent < 0 ∨ n.parent ≥ many) then 18 else if n.cap < 0 ∨ n.cap > 4611686018427387904 then 1 else 0

theorem ret_pair {k j : IntKind} {a b c d : Int} (h : a = b) (h' : c = d) : Ending.returned (.tuple #[.int k a, .int j c]) = .returned (.tuple #[.int k b, .int j d]) := by rw [h, h']
set_option maxHeartbeats 400000 in
theorem wrong_any (n : Node) (many : Int) (w : World) : Calls Try.prog 59 #[.agg #[.int .i64 n.parent, .int .i64 n.cap], .int .i64 many] w fun e w' => e = .returned (.int .i64 (wrongF n many)) ∧ Below w.heap.size w w' := by
  obtain ⟨p, c⟩ := n
  go_enter Try.func59, Try.ntmps59
  go_wp2
  all_goals
    go_ret
    refine ⟨ret_int ?_, (Below.refl _ _).alloc (Nat.le_refl _) _⟩
    try simp only [bne_iff_ne, ne_eq, bne_eq_false_iff_eq] at *
    unfold wrongF
    dsimp only
    repeat' split
    all_goals omega

/-- The first place from i on at which a test gives a code. -/
def firstFrom (f : Node → Int) (l : List Node) (i : Nat) : Option (Int × Int) :=
  if h : i < l.length then (if f l[i] ≠ 0 then some (f l[i], i) else firstFrom f l (i + 1)) else none
termination_by l.length - i
/-- Does the way up from a node end in so many steps? -/
def ends (l : List Node) : Nat → Int → Bool
  | 0, _ => false
  | k + 1, at_ => (nd l at_).parent == -1 || ends l k (nd l at_).parent
def longFrom (l : List Node) (i : Nat) : Option Int :=
  if i < l.length then (if ends l 3 i then longFrom l (i + 1) else some i) else none
termination_by l.length - i
def checkF (l : List Node) : Int × Int :=
  if l.length > 32 then (11, 0) else if l.length = 0 then (1, 0) else
  match firstFrom (fun n => wrongF n l.length) l 0 with
  | some r => r
  | none => match longFrom l 0 with
    | some i => (16, i)
    | none => (0, -1)

theorem firstFrom_next {f : Node → Int} {l : List Node} {i : Nat} (h : i < l.length) (hf : f (nd l i) = 0) : firstFrom f l i = firstFrom f l (i + 1) := by
  have e : nd l i = l[i] := by simp [nd, h]
  rw [firstFrom, dif_pos h, if_neg (by rw [← e]; simpa using hf)]
theorem firstFrom_here {f : Node → Int} {l : List Node} {i : Nat} (h : i < l.length) (hf : f (nd l i) ≠ 0) : firstFrom f l i = some (f (nd l i), (i : Int)) := by
  have e : nd l i = l[i] := by simp [nd, h]
  rw [firstFrom, dif_pos h, if_pos (by rw [← e]; exact hf), e]
theorem firstFrom_end {f : Node → Int} {l : List Node} {i : Nat} (h : ¬ i < l.length) : firstFrom f l i = none := by rw [firstFrom, dif_neg h]

theorem firstFrom_none {f : Node → Int} {l : List Node} : ∀ (d i : Nat), l.length - i = d → firstFrom f l i = none → ∀ j : Nat, i ≤ j → j < l.length → f (nd l j) = 0
  | 0, i, hd, _, j, h1, h2 => by omega
  | d + 1, i, hd, h, j, h1, h2 => by
    have hi : i < l.length := by omega
    by_cases hf : f (nd l i) = 0
    · by_cases e : i = j
      · subst e; exact hf
      · rw [firstFrom_next hi hf] at h
        exact firstFrom_none d (i + 1) (by omega) h j (by omega) h2
    · rw [firstFrom_here hi hf] at h; cases h
theorem wrongF_ok {n : Node} {many : Int} (h : wrongF n many = 0) : (n.parent = -1 ∨ 0 ≤ n.parent ∧ n.parent < many) ∧ 0 ≤ n.cap ∧ n.cap ≤ 4611686018427387904 := by
  unfold wrongF at h
  by_cases h1 : n.parent ≠ -1 ∧ (n.parent < 0 ∨ n.parent ≥ many)
  · rw [if_pos h1] at h; omega
  · rw [if_neg h1] at h
    by_cases h2 : n.cap < 0 ∨ n.cap > 4611686018427387904
    · rw [if_pos h2] at h; omega
    · omega
theorem longFrom_next {l : List Node} {i : Nat} (h : i < l.length) (he : ends l 3 i = true) : longFrom l i = longFrom l (i + 1) := by
  rw [longFrom, if_pos h, if_pos he]
theorem longFrom_here {l : List Node} {i : Nat} (h : i < l.length) (he : ends l 3 i = false) : longFrom l i = some (i : Int) := by
  rw [longFrom, if_pos h, if_neg (by rw [he]; decide)]
theorem longFrom_end {l : List Node} {i : Nat} (h : ¬ i < l.length) : longFrom l i = none := by rw [longFrom, if_neg h]

set_option maxHeartbeats 1000000 in
theorem check_any (F : Bl) (A : Option Addr) (c : Nat) (l : List Node) (w : World) (hr : Rd kNode w F A l) :
   Calls Try.prog 24 #[.slice A l.length c] w fun e w' => e = .returned (.tuple #[.int .i64 (checkF l).1, .int .i64 (checkF l).2]) ∧ Below w.heap.size w w' := by
  have HR := Lib.hid hr
  clear hr
  by_cases h32 : (32 : Int) < l.length
  · have HE : Hid (checkF l = (11, 0)) := Lib.hid (by unfold checkF; rw [if_pos (by omega)])
    go_enter Try.func24, Try.ntmps24
    go_wp2
    go_step3
    go_wp2
    try rw [Exit.noGoto_ret]
    go_ret2
    rw [HE.out]
    exact ⟨rfl, Below.refl _ _⟩
  · have hl : (l.length : Int) ≤ 32 := by omega
    by_cases h0 : (l.length : Int) = 0
    · have HE : Hid (checkF l = (1, 0)) := Lib.hid (by unfold checkF; rw [if_neg (by omega), if_pos (by omega)])
      have hz : ((l.length : Int) == 0) = true := by simpa using h0
      clear h0
      go_enter Try.func24, Try.ntmps24
      go_wp2
      go_step3
      go_wp2
      try rw [Exit.noGoto_ret]
      go_ret2
      rw [HE.out]
      exact ⟨rfl, Below.refl _ _⟩
    · have hz : ((l.length : Int) == 0) = false := by simpa using h0
      have hp : 0 < (l.length : Int) := by omega
      clear h0
      go_enter Try.func24, Try.ntmps24
      go_wp2
      go_step3
      go_wp2
      go_loopg [19] (33 : Nat) (fun g v wr => ∃ i : Nat, v = .int .i64 i ∧ i ≤ l.length ∧ g = 33 - i ∧ Hid (firstFrom (fun n => wrongF n l.length) l 0 = firstFrom (fun n => wrongF n l.length) l i) ∧ Below w.heap.size w wr)
      case atStart => exact ⟨0, rfl, by omega, rfl, Lib.hid rfl, Below.refl _ _⟩
      case round =>
        obtain ⟨i, rfl, hi, hg, HF, hB⟩ := hrel
        have HB := Lib.hid hB
        clear hB
        by_cases hlt : i < l.length
        · obtain ⟨ad, rfl, h1, h2⟩ := at_Node HR.out i (by omega) (by omega)
          rw [Int.toNat_natCast] at h1 h2
          replace h1 := (HB.out.cell (World.block_lt_of_cell? w _ h1)).trans h1
          replace h2 := (HB.out.cell (World.block_lt_of_cell? w _ h2)).trans h2
          go_wp2_with (go_at_call 59; refine (wrong_any _ _ _).mono ?_; rintro e w' ⟨rfl, hb⟩)
          · have hne : wrongF (nd l i) l.length ≠ 0 := by
              have h : (wrongF (nd l i) l.length != 0) = true := by assumption
              simpa using h
            have HE : Hid (checkF l = (wrongF (nd l i) l.length, (i : Int))) := Lib.hid (by
              unfold checkF; rw [if_neg (by omega), if_neg (by omega), HF.out, firstFrom_here (f := fun n => wrongF n l.length) hlt hne])
            try rw [Exit.noGoto_ret]
            go_ret2
            rw [HE.out]
            exact ⟨rfl, (HB.out.alloc HB.out.size _).trans (hb.mono (by have := HB.out.size; simp; omega))⟩
          · have heq : wrongF (nd l i) l.length = 0 := by
              have h : (wrongF (nd l i) l.length != 0) = false := by assumption
              simpa using h
            go_roundg (32 - i)
            case measure => omega
            case rel => exact ⟨i + 1, by go_num, by omega, by omega, Lib.hid (by rw [HF.out, firstFrom_next (f := fun n => wrongF n l.length) hlt heq]), (HB.out.alloc HB.out.size _).trans (hb.mono (by have := HB.out.size; simp; omega))⟩
        · have hgo : firstFrom (fun n => wrongF n l.length) l 0 = none := by rw [HF.out, firstFrom_end hlt]
          have HF2 := Lib.hid hgo
          clear hgo HF
          have hii : i = l.length := by omega
          clear hii
          go_wp2
          go_step3
          go_wp2
          go_loopg [35] (33 : Nat) (fun g v wr2 => ∃ i : Nat, v = .int .i64 i ∧ i ≤ l.length ∧ g = 33 - i ∧ Hid (longFrom l 0 = longFrom l i) ∧ Below w.heap.size w wr2)
          case atStart => exact ⟨0, rfl, by omega, rfl, Lib.hid rfl, HB.out⟩
          case round =>
            obtain ⟨i2, rfl, hi2, hg2, HL, hB2⟩ := hrel
            have HB2 := Lib.hid hB2
            clear hB2
            by_cases hlt2 : i2 < l.length
            · go_wp2
              go_loopg [8, 39] (3 : Nat) (fun g2 v8 v39 wr3 => ∃ (at_ : Int) (k : Nat), v8 = .int .i64 at_ ∧ v39 = .int .i64 k ∧ k + g2 = 3 ∧ 0 ≤ at_ ∧ at_ < l.length ∧ Hid (ends l 3 i2 = ends l g2 at_) ∧ wr3 = wr)
              case atStart => exact ⟨i2, 0, rfl, rfl, rfl, by omega, by omega, Lib.hid rfl, rfl⟩
              case round =>
                obtain ⟨at_, k, rfl, rfl, hk, ha0, ha1, HE, rfl⟩ := hrel
                by_cases hk3 : k < 3
                · obtain ⟨g3, rfl⟩ : ∃ g3, gk = g3 + 1 := ⟨gk - 1, by omega⟩
                  obtain ⟨ad, hA, h1, h2⟩ := at_Node HR.out at_ ha0 ha1
                  have hpar := (wrongF_ok (firstFrom_none _ _ rfl HF2.out at_.toNat (by omega) (by omega))).1
                  rw [show ((at_.toNat : Nat) : Int) = at_ by omega] at hpar
                  cases hA
                  replace h1 := (HB2.out.cell (World.block_lt_of_cell? w _ h1)).trans h1
                  have HE2 : Hid (ends l (g3 + 1) at_ = ((nd l at_).parent == -1 || ends l g3 (nd l at_).parent)) := Lib.hid rfl
                  by_cases hp1 : (nd l at_).parent = -1
                  · have hb1 : ((nd l at_).parent == -1) = true := by simpa using hp1
                    have HP := Lib.hid hp1
                    clear hp1 hpar h2
                    go_wp2
                    go_roundg (32 - i2)
                    case measure => omega
                    case rel => exact ⟨i2 + 1, by go_num, by omega, by omega, Lib.hid (by rw [HL.out, longFrom_next hlt2]; rw [HE.out, HE2.out, hb1]; rfl), HB2.out⟩
                  · have hb1 : ((nd l at_).parent == -1) = false := by simpa using hp1
                    have hq0 : 0 ≤ (nd l at_).parent := by omega
                    have hq1 : (nd l at_).parent < l.length := by omega
                    clear hp1 hpar h2
                    go_wp2
                    go_roundg g3
                    case measure => omega
                    case rel => exact ⟨(nd l at_).parent, k + 1, rfl, by go_num, by omega, hq0, hq1, Lib.hid (by rw [HE.out, HE2.out, hb1]; rfl), rfl⟩
                · have hEf : ends l 3 i2 = false := by rw [HE.out, show gk = 0 by omega]; rfl
                  have HC : Hid (checkF l = (16, (i2 : Int))) := Lib.hid (by
                    unfold checkF; rw [if_neg (by omega), if_neg (by omega), HF2.out]; dsimp only; rw [HL.out, longFrom_here hlt2 hEf])
                  clear hEf
                  go_wp2
                  try rw [Exit.noGoto_ret]
                  go_ret2
                  rw [HC.out]
                  exact ⟨rfl, HB2.out⟩
            · have HC : Hid (checkF l = (0, -1)) := Lib.hid (by
                unfold checkF; rw [if_neg (by omega), if_neg (by omega), HF2.out]; dsimp only; rw [HL.out, longFrom_end hlt2])
              go_wp2
              try rw [Exit.noGoto_ret]
              go_ret2
              rw [HC.out]
              exact ⟨rfl, HB2.out⟩

theorem ends_climb {l : List Node} (hok : ∀ j : Nat, j < l.length → (nd l j).parent = -1 ∨ 0 ≤ (nd l j).parent ∧ (nd l j).parent < l.length) : ∀ k (n : Int), 0 ≤ n → n < l.length → (climbF l k n).2 = ends l k n
  | 0, n, h0, h1 => by rw [climb_full ⟨h0, h1⟩]; rfl
  | k + 1, n, h0, h1 => by
    rw [climb_more ⟨h0, h1⟩]
    show (climbF l k (nd l n).parent).2 = ((nd l n).parent == -1 || ends l k (nd l n).parent)
    have h := hok n.toNat (by omega)
    rw [show ((n.toNat : Nat) : Int) = n by omega] at h
    rcases h with h | ⟨h2, h3⟩
    · rw [h, climb_out (by omega)]; rfl
    · rw [ends_climb hok k _ h2 h3, beq_eq_false_iff_ne.2 (by omega), Bool.false_or]

theorem checkF_here {l : List Node} {i : Nat} {q : Int} (h1 : ¬ (32 : Int) < l.length) (h2 : 0 < (l.length : Int)) (hF : firstFrom (fun n => wrongF n l.length) l 0 = firstFrom (fun n => wrongF n l.length) l i) (hi : i < l.length) (hq : wrongF (nd l i) l.length = q) (hq0 : q ≠ 0) : checkF l = (q, (i : Int)) := by
  unfold checkF
  rw [if_neg (by omega), if_neg (by omega), hF, firstFrom_here (f := fun n => wrongF n l.length) hi (by show wrongF (nd l i) l.length ≠ 0; omega)]
  show (wrongF (nd l i) l.length, (i : Int)) = _
  rw [hq]
theorem wrongF_18 {n : Node} {m : Int} (h : n.parent ≠ -1 ∧ (n.parent < 0 ∨ n.parent ≥ m)) : wrongF n m = 18 := by unfold wrongF; rw [if_pos h]
theorem wrongF_1 {n : Node} {m : Int} (h : ¬ (n.parent ≠ -1 ∧ (n.parent < 0 ∨ n.parent ≥ m))) (h' : n.cap < 0 ∨ n.cap > 4611686018427387904) : wrongF n m = 1 := by unfold wrongF; rw [if_neg h, if_pos h']
theorem wrongF_0 {n : Node} {m : Int} (h : ¬ (n.parent ≠ -1 ∧ (n.parent < 0 ∨ n.parent ≥ m))) (h' : ¬ (n.cap < 0 ∨ n.cap > 4611686018427387904)) : wrongF n m = 0 := by unfold wrongF; rw [if_neg h, if_neg h']

set_option maxHeartbeats 1000000 in
theorem rcheck_any (F : Bl) (A : Option Addr) (c : Nat) (l : List Node) (w : World) (hr : Rd kNode w F A l) :
   Calls Try.prog 26 #[.slice A l.length c] w fun e w' => e = .returned (.tuple #[.int .i64 (checkF l).1, .int .i64 (checkF l).2]) ∧ Below w.heap.size w w' := by
  have HR := Lib.hid hr
  clear hr
  by_cases h32 : (32 : Int) < l.length
  · have HE : Hid (checkF l = (11, 0)) := Lib.hid (by unfold checkF; rw [if_pos (by omega)])
    go_enter Try.func26, Try.ntmps26
    go_wp2
    go_ret2
    rw [HE.out]
    exact ⟨rfl, Below.refl _ _⟩
  · have hl : (l.length : Int) ≤ 32 := by omega
    by_cases h0 : (l.length : Int) = 0
    · have HE : Hid (checkF l = (1, 0)) := Lib.hid (by unfold checkF; rw [if_neg (by omega), if_pos (by omega)])
      have hz : ((l.length : Int) == 0) = true := by simpa using h0
      clear h0
      go_enter Try.func26, Try.ntmps26
      go_wp2
      go_ret2
      rw [HE.out]
      exact ⟨rfl, Below.refl _ _⟩
    · have hz : ((l.length : Int) == 0) = false := by simpa using h0
      have hp : 0 < (l.length : Int) := by omega
      clear h0
      go_enter Try.func26, Try.ntmps26
      go_wp2
      go_loopg [4] (33 : Nat) (fun g v wr => ∃ i : Nat, v = .int .i64 i ∧ i ≤ l.length ∧ g = 33 - i ∧ Hid (firstFrom (fun n => wrongF n l.length) l 0 = firstFrom (fun n => wrongF n l.length) l i) ∧ Hid (Below w.heap.size w wr))
      case atStart => exact ⟨0, rfl, by omega, rfl, Lib.hid rfl, Lib.hid (Below.refl _ _)⟩
      case round =>
        obtain ⟨i, rfl, hi, hg, HF, HB⟩ := hrel
        by_cases hlt : i < l.length
        · obtain ⟨ad, rfl, h1, h2⟩ := at_Node HR.out i (by omega) (by omega)
          rw [Int.toNat_natCast] at h1 h2
          replace h1 := (HB.out.cell (World.block_lt_of_cell? w _ h1)).trans h1
          replace h2 := (HB.out.cell (World.block_lt_of_cell? w _ h2)).trans h2
          go_wp2
          all_goals first
            | (have HE := Lib.hid (checkF_here (l := l) (by omega) (by omega) HF.out hlt (wrongF_18 (by omega)) (by decide))
               go_ret2
               rw [HE.out]
               exact ⟨rfl, HB.out⟩)
            | (have HE := Lib.hid (checkF_here (l := l) (by omega) (by omega) HF.out hlt (wrongF_1 (by omega) (by omega)) (by decide))
               go_ret2
               rw [HE.out]
               exact ⟨rfl, HB.out⟩)
            | (have hq : wrongF (nd l i) l.length = 0 := wrongF_0 (by omega) (by omega)
               go_roundg (32 - i)
               case measure => omega
               case rel => exact ⟨i + 1, by go_num, by omega, by omega, Lib.hid (by rw [HF.out, firstFrom_next (f := fun n => wrongF n l.length) hlt hq]), HB⟩)
        · have HF2 : Hid (firstFrom (fun n => wrongF n l.length) l 0 = none) := Lib.hid (by rw [HF.out, firstFrom_end hlt])
          have HOK : Hid (∀ j : Nat, j < l.length → (nd l j).parent = -1 ∨ 0 ≤ (nd l j).parent ∧ (nd l j).parent < l.length) := Lib.hid (fun j hj => (wrongF_ok (firstFrom_none _ _ rfl HF2.out j (by omega) hj)).1)
          clear HF
          go_wp2
          go_loopg [5] (33 : Nat) (fun g v wr2 => ∃ i : Nat, v = .int .i64 i ∧ i ≤ l.length ∧ g = 33 - i ∧ Hid (longFrom l 0 = longFrom l i) ∧ Hid (Below w.heap.size w wr2))
          case atStart => exact ⟨0, rfl, by omega, rfl, Lib.hid rfl, HB⟩
          case round =>
            obtain ⟨i2, rfl, hi2, hg2, HL, HB2⟩ := hrel
            by_cases hlt2 : i2 < l.length
            · have HEC := Lib.hid (ends_climb HOK.out 3 i2 (by omega) (by omega))
              have HS := HB2.out.size
              have HR2 : Hid (Rd kNode wr (fun k => F k ∧ k < w.heap.size) A l) := Lib.hid ((HR.out.bound (by decide)).move (Same.of_below' HB2.out (fun k hk => hk.2)))
              go_wp2_with (go_at_call 60; refine (climb_any _ _ _ _ _ _ HR2.out).mono ?_; rintro e w' ⟨v, rfl, hO, hb⟩)
              all_goals first
                | (have he : ends l 3 i2 = true := by (rw [← HEC.out]; simp_all)
                   go_roundg (32 - i2)
                   case measure => omega
                   case rel => exact ⟨i2 + 1, by go_num, by omega, by omega, Lib.hid (by rw [HL.out, longFrom_next hlt2 he]), Lib.hid (HB2.out.trans (hb.mono HS))⟩)
                | (have he : ends l 3 i2 = false := by (rw [← HEC.out]; simp_all)
                   have HC : Hid (checkF l = (16, (i2 : Int))) := Lib.hid (by
                     unfold checkF; rw [if_neg (by omega), if_neg (by omega), HF2.out]; dsimp only; rw [HL.out, longFrom_here hlt2 he])
                   go_ret2
                   rw [HC.out]
                   exact ⟨rfl, HB2.out.trans (hb.mono HS)⟩)
            · have HC : Hid (checkF l = (0, -1)) := Lib.hid (by
                unfold checkF; rw [if_neg (by omega), if_neg (by omega), HF2.out]; dsimp only; rw [HL.out, longFrom_end hlt2])
              go_wp2
              go_ret2
              rw [HC.out]
              exact ⟨rfl, HB2.out⟩

end Go.Proofs.Ytnodcekkbbmfnaa.Tree
