/- Package tree's statements, walked: the lists made for the program, the trees that may be, out of any. -/
import Derived.Deep.RegionHeld3
import Derived.Test.YtnodcekkbbmfnaaTree
namespace Go.Proofs.Ytnodcekkbbmfnaa.Tree
open Go.RowKit Go.Proofs.Ytnodcekkbbmfnaa.K
set_option linter.unusedVariables false

theorem wrap_in {n : Int} (h0 : -9223372036854775808 ≤ n) (h : n ≤ 9223372036854775807) : wrap64 n = n := by unfold wrap64; omega
theorem below_drew {B : Nat} {w w' : World} (h : Below B w w') : Below B w w'.drew := h.drew

set_option maxRecDepth 100000 in
set_option maxHeartbeats 3000000 in
theorem to_any (F : Bl) (A : Option Addr) (c : Nat) (l : List Node) (w : World) (hr : Rd kNode w F A l) (hsz : l.length * 16 ≤ 140737488355328) :
    Calls Try.prog 25 #[.slice A l.length c] w fun e w' => ∃ v, e = .returned v ∧ Own kNode 43 w' w.heap.size (fun _ => False) v l ∧ Below w.heap.size w w' := by
  have HR := Lib.hid hr
  clear hr
  obtain ⟨i0, hi, hz0, hz1, hz2⟩ := info_parts info_node
  have HI := Lib.hid (And.intro hi (And.intro hz0 (And.intro hz1 hz2)))
  clear hi hz0 hz1 hz2
  have hl := HR.out.len
  have HS := Lib.hid hsz
  clear hsz
  go_enter Try.func25, Try.ntmps25
  go_wp2
  go_loopg [3, 4] (l.length + 1 : Nat) (fun g v3 v4 wr => ∃ (i : Nat) (out : List Node), v4 = .int .i64 i ∧ Hid (i ≤ l.length ∧ g = l.length + 1 - i ∧ out = l.take i ∧ out.length = i) ∧ Hid (Own kNode 43 wr w.heap.size (fun _ => False) v3 out) ∧ Hid (Below w.heap.size w wr))
  case atStart => exact ⟨0, [], rfl, Lib.hid ⟨by omega, rfl, rfl, rfl⟩, Lib.hid (Own.nil _ _ _ _ _), Lib.hid (Below.refl _ _)⟩
  case round =>
    obtain ⟨i, out, rfl, HG, HO, HB⟩ := hrel
    obtain ⟨A3, c3, rfl, hc3⟩ := HO.out.slice
    by_cases hlt : i < l.length
    · have hi0 : (i : Int) < l.length := by omega
      obtain ⟨ad, rfl, hx, hy⟩ := at_Node HR.out i (by omega) hi0
      rw [Int.toNat_natCast] at hx hy
      have HX := Lib.hid hx
      have HY := Lib.hid hy
      replace hx := (HB.out.cell (cell_lt hx)).trans hx
      replace hy := (HB.out.cell (cell_lt hy)).trans hy
      have hB := HB.out.size
      have HL : Hid ((out.length + 1) * 16 ≤ 140737488355328) := Lib.hid (by have := HS.out; have := HG.out.2.2.2; omega)
      have hB1 : w.heap.size ≤ wr.drew.heap.size := hB
      go_wp2
      go_region_held3 (fun w' => w'.cell? (ad.add (i * 2)) = some (.int .i64 (nd l i).parent) ∧ w'.cell? ⟨(ad.add (i * 2)).block, (ad.add (i * 2)).off + 1, none⟩ = some (.int .i64 (nd l i).cap))
        (first | go_keep | (go_split_ands; refine ⟨(HB2.out.cell (cell_lt HX.out)).trans HX.out, (HB2.out.cell (cell_lt HY.out)).trans HY.out⟩))
        ((refine step_append_one (w := wr.drew) (by rfl) _ _ 31 (by rfl) kNode 43 i0 (.agg #[.int .i64 0, .int .i64 0]) 16 Try.underlying31 HI.out.1 HI.out.2.1 HI.out.2.2.1 HI.out.2.2.2 rfl (by decide) (by decide) w.heap.size (fun _ => False) (.slice A3 out.length c3) out (by rfl) HO.out (fun k h => h.elim) (nd l i) #[.int .i64 (nd l i).parent, .int .i64 (nd l i).cap] (by rfl) (by rfl) (kNode_mk _ _ _) HL.out hB1 (by rfl) ?_; intro v' w1 hown hgrow hat; have HB2 := Lib.hid (HB.out.drew.grown hgrow hB1 (fun k hk => (HO.out.lt k hk).1)); have HO2 := Lib.hid hown; clear hown hgrow hat))
      go_wp2
      go_roundg (l.length - i)
      case measure => have := HG.out.2.1; omega
      case rel => exact ⟨i + 1, out ++ [nd l i], by go_num, Lib.hid ⟨by omega, by omega, by rw [HG.out.2.2.1, nd_nat l i hlt, List.take_succ_eq_append_getElem hlt], by simp [HG.out.2.2.2]⟩, HO2, HB2⟩
    · have HE : Hid (out = l) := Lib.hid (by rw [HG.out.2.2.1]; exact List.take_of_length_le (by omega))
      go_wp2
      go_ret
      refine ⟨_, rfl, ?_, HB.out⟩
      have h := HO.out
      rw [HE.out] at h ⊢
      exact h

/-! ### a tree that may be, out of any -/
def capFix (c : Int) : Int := wrap64 ((IntKind.u64.wrap c).tmod 4611686018427387905)
def fixOne (l out : List Node) (i : Nat) : Node :=
  if 0 < i ∧ 0 ≤ (nd l i).parent then
    (if 3 ≤ (pathF out ((nd l i).parent % i)).length then ⟨-1, capFix (nd l i).cap⟩ else ⟨(nd l i).parent % i, capFix (nd l i).cap⟩)
  else ⟨-1, capFix (nd l i).cap⟩
def fixN (l : List Node) : Nat → List Node
  | 0 => []
  | i + 1 => fixN l i ++ [fixOne l (fixN l i) i]
def fixF (l : List Node) : List Node := if l.length = 0 then [⟨-1, 1000⟩] else fixN l (min l.length 10)

set_option maxRecDepth 100000 in
set_option maxHeartbeats 3000000 in
theorem fix_any (F : Bl) (A : Option Addr) (c : Nat) (l : List Node) (w : World) (hr : Rd kNode w F A l) :
    Calls Try.prog 28 #[.slice A l.length c] w fun e w' => ∃ v, e = .returned v ∧ Own kNode 68 w' w.heap.size (fun _ => False) v (fixF l) ∧ Below w.heap.size w w' := by
  have HR := Lib.hid hr
  clear hr
  obtain ⟨i0, hi, hz0, hz1, hz2⟩ := info_parts info_rnode
  have HI := Lib.hid (And.intro hi (And.intro hz0 (And.intro hz1 hz2)))
  clear hi hz0 hz1 hz2
  have hl := HR.out.len
  go_enter Try.func28, Try.ntmps28
  go_wp2
  go_loopg [3, 4] (11 : Nat) (fun g v3 v4 wr => ∃ (i : Nat) (out : List Node), v4 = .int .i64 i ∧ Hid (i ≤ min l.length 10 ∧ g = 11 - i ∧ out = fixN l i ∧ out.length = i) ∧ Hid (Own kNode 68 wr w.heap.size (fun _ => False) v3 out) ∧ Hid (Below w.heap.size w wr))
  case atStart => exact ⟨0, [], rfl, Lib.hid ⟨by omega, rfl, rfl, rfl⟩, Lib.hid (Own.nil _ _ _ _ _), Lib.hid (Below.refl _ _)⟩
  case round =>
    obtain ⟨i, out, rfl, HG, HO, HB⟩ := hrel
    obtain ⟨A3, c3, rfl, hc3⟩ := HO.out.slice
    by_cases hlt : i < min l.length 10
    · have hi0 : (i : Int) < l.length := by omega
      have hi1 : (i : Int) < 10 := by omega
      obtain ⟨ad, rfl, hx, hy⟩ := at_Node HR.out i (by omega) hi0
      rw [Int.toNat_natCast] at hx hy
      have HX := Lib.hid hx
      have HY := Lib.hid hy
      replace hx := (HB.out.cell (cell_lt hx)).trans hx
      replace hy := (HB.out.cell (cell_lt hy)).trans hy
      have hxa := fun o => (World.cell?_alloc_lt wr o _ (cell_lt hx)).trans hx
      have hya := fun o => (World.cell?_alloc_lt wr o _ (cell_lt hy)).trans hy
      have hlt2 := Lib.hid hlt
      clear hlt
      have HL : Hid ((out.length + 1) * 16 ≤ 140737488355328) := Lib.hid (by have := HG.out.2.2.2; omega)
      have HRD : Hid (∀ o, Rd kNode (wr.alloc o) (fun k => k < wr.heap.size) A3 out) := Lib.hid (fun o => (HO.out.rd.2.more (fun k hk => by rcases hk with h | h; exact h.elim; exact h.2)).move (fun k hk => heap_alloc_old wr o hk))
      have hB := HB.out.size
      by_cases h1 : (0 : Int) < i
      · by_cases h2 : 0 ≤ (nd l i).parent
        · by_cases h3 : (3 : Int) ≤ (pathF out ((nd l i).parent % i)).length
          · have HE : Hid (fixOne l out i = ⟨-1, capFix (nd l i).cap⟩) := Lib.hid (by unfold fixOne; rw [if_pos ⟨by omega, h2⟩, if_pos (by omega)])
            go_wp2_with (first | (go_at_call 31; refine (rpath_any (fun k => k < wr.heap.size) _ _ _ _ _ (HRD.out _)).mono ?_; rintro e w1 ⟨v, rfl, hO1, hb⟩; obtain ⟨A6, c6, rfl, hc6⟩ := hO1.slice; have HBR : Hid (Below wr.heap.size wr w1) := Lib.hid (((Below.refl _ _).alloc (Nat.le_refl _) _).trans (hb.mono (by simp))); have hq := (hb.block wr.heap.size (by simp)).trans (heap_alloc_new wr _); have q0 := box_cell hq 0 rfl; have q1 := box_cell hq 1 rfl; have f0 := box_free hq 0; have HS2 : Hid (w.heap.size ≤ w1.heap.size) := Lib.hid (Nat.le_trans hB HBR.out.size)) | (at_builtin; refine wpList_append_one (w := (w1.setCell ⟨wr.heap.size, 0, none⟩ (.int .i64 (-1)))) rfl _ _ 27 rfl kNode 68 i0 (.agg #[.int .i64 0, .int .i64 0]) 16 Try.underlying27 HI.out.1 HI.out.2.1 HI.out.2.2.1 HI.out.2.2.2 rfl (by decide) (by decide) w.heap.size (fun _ => False) (.slice A3 out.length c3) out rfl (HO.out.below (HBR.out.setCell (Nat.le_refl _) _) (fun k h => h.elim)) (fun k h => h.elim) (⟨-1, capFix (nd l i).cap⟩ : Node) #[.int .i64 ((⟨-1, capFix (nd l i).cap⟩ : Node)).parent, .int .i64 ((⟨-1, capFix (nd l i).cap⟩ : Node)).cap] rfl (by simp) (kNode_mk _ _ _) HL.out (by simpa using HS2.out) ?_; intro v' w2 hown hgrow hat; have HB2 := Lib.hid ((HB.out.trans ((HBR.out.setCell (p := ⟨wr.heap.size, 0, none⟩) (Nat.le_refl _) _).mono hB)).grown hgrow (by simpa using HS2.out) (fun k hk => (HO.out.lt k hk).1)); have HO2 := Lib.hid hown; clear hown hgrow hat))
            go_roundg (10 - i)
            case measure => have := HG.out.2.1; omega
            case rel => exact ⟨i + 1, out ++ [(⟨-1, capFix (nd l i).cap⟩ : Node)], by go_num, Lib.hid ⟨by have := hlt2.out; omega, by omega, by rw [fixN, ← HG.out.2.2.1, HE.out], by simp [HG.out.2.2.2]⟩, HO2, HB2⟩
          · have HE : Hid (fixOne l out i = ⟨(nd l i).parent % i, capFix (nd l i).cap⟩) := Lib.hid (by unfold fixOne; rw [if_pos ⟨by omega, h2⟩, if_neg (by omega)])
            go_wp2_with (first | (go_at_call 31; refine (rpath_any (fun k => k < wr.heap.size) _ _ _ _ _ (HRD.out _)).mono ?_; rintro e w1 ⟨v, rfl, hO1, hb⟩; obtain ⟨A6, c6, rfl, hc6⟩ := hO1.slice; have HBR : Hid (Below wr.heap.size wr w1) := Lib.hid (((Below.refl _ _).alloc (Nat.le_refl _) _).trans (hb.mono (by simp))); have hq := (hb.block wr.heap.size (by simp)).trans (heap_alloc_new wr _); have q0 := box_cell hq 0 rfl; have q1 := box_cell hq 1 rfl; have f0 := box_free hq 0; have HS2 : Hid (w.heap.size ≤ w1.heap.size) := Lib.hid (Nat.le_trans hB HBR.out.size)) | (at_builtin; refine wpList_append_one (w := w1) rfl _ _ 27 rfl kNode 68 i0 (.agg #[.int .i64 0, .int .i64 0]) 16 Try.underlying27 HI.out.1 HI.out.2.1 HI.out.2.2.1 HI.out.2.2.2 rfl (by decide) (by decide) w.heap.size (fun _ => False) (.slice A3 out.length c3) out rfl (HO.out.below HBR.out (fun k h => h.elim)) (fun k h => h.elim) (⟨(nd l i).parent % i, capFix (nd l i).cap⟩ : Node) #[.int .i64 ((⟨(nd l i).parent % i, capFix (nd l i).cap⟩ : Node)).parent, .int .i64 ((⟨(nd l i).parent % i, capFix (nd l i).cap⟩ : Node)).cap] rfl (by simp) (kNode_mk _ _ _) HL.out HS2.out ?_; intro v' w2 hown hgrow hat; have HB2 := Lib.hid ((HB.out.trans (HBR.out.mono hB)).grown hgrow HS2.out (fun k hk => (HO.out.lt k hk).1)); have HO2 := Lib.hid hown; clear hown hgrow hat))
            go_roundg (10 - i)
            case measure => have := HG.out.2.1; omega
            case rel => exact ⟨i + 1, out ++ [(⟨(nd l i).parent % i, capFix (nd l i).cap⟩ : Node)], by go_num, Lib.hid ⟨by have := hlt2.out; omega, by omega, by rw [fixN, ← HG.out.2.2.1, HE.out], by simp [HG.out.2.2.2]⟩, HO2, HB2⟩
        · have HE : Hid (fixOne l out i = ⟨-1, capFix (nd l i).cap⟩) := Lib.hid (by unfold fixOne; rw [if_neg (fun h => h2 h.2)])
          go_wp2_with (at_builtin; refine wpList_append_one (w := (wr.alloc (.cells #[.int .i64 (-1), .int .i64 (capFix (nd l i).cap)] 68))) rfl _ _ 27 rfl kNode 68 i0 (.agg #[.int .i64 0, .int .i64 0]) 16 Try.underlying27 HI.out.1 HI.out.2.1 HI.out.2.2.1 HI.out.2.2.2 rfl (by decide) (by decide) w.heap.size (fun _ => False) (.slice A3 out.length c3) out rfl (HO.out.below ((Below.refl _ _).alloc (Nat.le_refl _) _) (fun k h => h.elim)) (fun k h => h.elim) (⟨-1, capFix (nd l i).cap⟩ : Node) #[.int .i64 ((⟨-1, capFix (nd l i).cap⟩ : Node)).parent, .int .i64 ((⟨-1, capFix (nd l i).cap⟩ : Node)).cap] rfl (by simp) (kNode_mk _ _ _) HL.out (by simp; omega) ?_; intro v' w2 hown hgrow hat; have HB2 := Lib.hid ((HB.out.trans (((Below.refl _ _).alloc (Nat.le_refl _) _).mono hB)).grown hgrow (by simp; omega) (fun k hk => (HO.out.lt k hk).1)); have HO2 := Lib.hid hown; clear hown hgrow hat)
          go_roundg (10 - i)
          case measure => have := HG.out.2.1; omega
          case rel => exact ⟨i + 1, out ++ [(⟨-1, capFix (nd l i).cap⟩ : Node)], by go_num, Lib.hid ⟨by have := hlt2.out; omega, by omega, by rw [fixN, ← HG.out.2.2.1, HE.out], by simp [HG.out.2.2.2]⟩, HO2, HB2⟩
      · have HE : Hid (fixOne l out i = ⟨-1, capFix (nd l i).cap⟩) := Lib.hid (by unfold fixOne; rw [if_neg (fun h => by omega)])
        go_wp2_with (at_builtin; refine wpList_append_one (w := (wr.alloc (.cells #[.int .i64 (-1), .int .i64 (capFix (nd l i).cap)] 68))) rfl _ _ 27 rfl kNode 68 i0 (.agg #[.int .i64 0, .int .i64 0]) 16 Try.underlying27 HI.out.1 HI.out.2.1 HI.out.2.2.1 HI.out.2.2.2 rfl (by decide) (by decide) w.heap.size (fun _ => False) (.slice A3 out.length c3) out rfl (HO.out.below ((Below.refl _ _).alloc (Nat.le_refl _) _) (fun k h => h.elim)) (fun k h => h.elim) (⟨-1, capFix (nd l i).cap⟩ : Node) #[.int .i64 ((⟨-1, capFix (nd l i).cap⟩ : Node)).parent, .int .i64 ((⟨-1, capFix (nd l i).cap⟩ : Node)).cap] rfl (by simp) (kNode_mk _ _ _) HL.out (by simp; omega) ?_; intro v' w2 hown hgrow hat; have HB2 := Lib.hid ((HB.out.trans (((Below.refl _ _).alloc (Nat.le_refl _) _).mono hB)).grown hgrow (by simp; omega) (fun k hk => (HO.out.lt k hk).1)); have HO2 := Lib.hid hown; clear hown hgrow hat)
        go_roundg (10 - i)
        case measure => have := HG.out.2.1; omega
        case rel => exact ⟨i + 1, out ++ [(⟨-1, capFix (nd l i).cap⟩ : Node)], by go_num, Lib.hid ⟨by have := hlt2.out; omega, by omega, by rw [fixN, ← HG.out.2.2.1, HE.out], by simp [HG.out.2.2.2]⟩, HO2, HB2⟩
    · have hge : min l.length 10 ≤ i := by omega
      have HF : Hid (i = min l.length 10) := Lib.hid (by have := HG.out.1; omega)
      clear hge hlt
      by_cases h0 : i = 0
      · have HE : Hid (fixF l = [⟨-1, 1000⟩]) := Lib.hid (by unfold fixF; rw [if_pos (by have := HF.out; omega)])
        have hi0 : ¬ (i : Int) < l.length := by have := HF.out; omega
        have hz : ((out.length : Int) == 0) = true := beq_iff_eq.2 (by have := HG.out.2.2.2; omega)
        clear h0
        go_wp2
        go_ret
        rw [HE.out]
        refine ⟨_, rfl, Own.lit (heap_alloc_new wr _) HB.out.size (by decide) ⟨rfl, fun j hj => ?_⟩, HB.out.alloc HB.out.size _⟩
        obtain rfl : j = 0 := by simp at hj; omega
        exact kNode_mk _ _ _
      · have HE : Hid (fixF l = out) := Lib.hid (by unfold fixF; rw [if_neg (by have := HF.out; omega), HG.out.2.2.1, HF.out])
        have hz : ((out.length : Int) == 0) = false := beq_eq_false_iff_ne.2 (by have := HG.out.2.2.2; omega)
        clear h0
        by_cases h1 : (i : Int) < l.length
        · have h2 : ¬ (i : Int) < 10 := by have := HF.out; omega
          go_wp2
          go_ret
          rw [HE.out]
          exact ⟨_, rfl, HO.out, HB.out⟩
        · go_wp2
          go_ret
          rw [HE.out]
          exact ⟨_, rfl, HO.out, HB.out⟩

def T2 : List Node := [⟨1, 0⟩, ⟨0, 0⟩]
def T3 : List Node := [⟨-1, 0⟩, ⟨0, 0⟩, ⟨1, 0⟩]
theorem checkF_ok {l : List Node} (h0 : l.length ≠ 0) (h1 : l.length ≤ 32) (hf : firstFrom (fun n => wrongF n l.length) l 0 = none) (hl : longFrom l 0 = none) : checkF l = (0, -1) := by
  unfold checkF; rw [if_neg (by omega), if_neg h0, hf]; dsimp only; rw [hl]
theorem checkF_long {l : List Node} {i : Int} (h0 : l.length ≠ 0) (h1 : l.length ≤ 32) (hf : firstFrom (fun n => wrongF n l.length) l 0 = none) (hl : longFrom l 0 = some i) : checkF l = (16, i) := by
  unfold checkF; rw [if_neg (by omega), if_neg h0, hf]; dsimp only; rw [hl]
theorem ff_T2 : firstFrom (fun n => wrongF n T2.length) T2 0 = none := by
  rw [firstFrom_next (by decide) (by decide), firstFrom_next (by decide) (by decide), firstFrom_end (by decide)]
theorem ff_T3 : firstFrom (fun n => wrongF n T3.length) T3 0 = none := by
  rw [firstFrom_next (by decide) (by decide), firstFrom_next (by decide) (by decide), firstFrom_next (by decide) (by decide), firstFrom_end (by decide)]
theorem check_T2 : checkF T2 = (16, 0) := checkF_long (by decide) (by decide) ff_T2 (longFrom_here (by decide) (by decide))
theorem check_T3 : checkF T3 = (0, -1) := checkF_ok (by decide) (by decide) ff_T3 (by
  rw [longFrom_next (by decide) (by decide), longFrom_next (by decide) (by decide), longFrom_next (by decide) (by decide), longFrom_end (by decide)])
theorem path_T3 : pathF T3 2 = [2, 1, 0] := by decide
theorem reps_T2 (w : World) (F : Bl) : Reps (kNode.K w F) kNode.sz T2 [.int .i64 1, .int .i64 0, .int .i64 0, .int .i64 0] := by
  refine ⟨rfl, fun i hi => ?_⟩
  match i, hi with
  | 0, _ => exact kNode_mk _ _ _
  | 1, _ => exact kNode_mk _ _ _
theorem reps_T3 (w : World) (F : Bl) : Reps (kNode.K w F) kNode.sz T3 [.int .i64 (-1), .int .i64 0, .int .i64 0, .int .i64 0, .int .i64 1, .int .i64 0] := by
  refine ⟨rfl, fun i hi => ?_⟩
  match i, hi with
  | 0, _ => exact kNode_mk _ _ _
  | 1, _ => exact kNode_mk _ _ _
  | 2, _ => exact kNode_mk _ _ _
theorem reps_210 (w : World) (F : Bl) : Reps ((Kd.int .i64).K w F) (Kd.int .i64).sz [2, 1, 0] [.int .i64 2, .int .i64 1, .int .i64 0] := by
  refine ⟨rfl, fun i hi => ?_⟩
  match i, hi with
  | 0, _ => rfl
  | 1, _ => rfl
  | 2, _ => rfl

set_option maxHeartbeats 3000000 in
theorem told_any (w : World) : Calls Try.prog 27 #[] w fun e w' => e = .returned (.bool true) ∧ Below w.heap.size w w' := by
  have h3 : ∀ w', Below (w.heap.size + 1) (w.alloc (.cells #[.int .i64 (-1), .int .i64 0, .int .i64 0, .int .i64 0, .int .i64 1, .int .i64 0] 43)) w' → Rd kNode w' (fun _ => True) (some ⟨w.heap.size, 0, none⟩) T3 := fun w' hb =>
    Rd.lit ((hb.block _ (by omega)).trans (heap_alloc_new w _)) trivial (by decide) (reps_T3 _ _)
  have H3 := Lib.hid h3
  have HB0 : Hid (Below w.heap.size w (w.alloc (.cells #[.int .i64 (-1), .int .i64 0, .int .i64 0, .int .i64 0, .int .i64 1, .int .i64 0] 43))) := Lib.hid ((Below.refl _ _).alloc (Nat.le_refl _) _)
  clear h3
  go_enter Try.func27, Try.ntmps27
  go_wp2_with fail
  refine (check_any (fun _ => True) _ _ T2 _ (Rd.lit (heap_new (by simp)) trivial (by decide) (reps_T2 _ _))).mono ?_
  rintro e w1 ⟨rfl, hb1⟩
  rw [check_T2]
  have hb1' : Below (w.heap.size + 1) (w.alloc (.cells #[.int .i64 (-1), .int .i64 0, .int .i64 0, .int .i64 0, .int .i64 1, .int .i64 0] 43)) w1 := ((Below.refl _ _).alloc (by simp) _).trans (hb1.mono (by simp))
  have HB1 := Lib.hid hb1'
  clear hb1 hb1'
  go_wp2_with fail
  refine (check_any (fun _ => True) _ _ T3 _ (H3.out _ HB1.out)).mono ?_
  rintro e w2 ⟨rfl, hb2⟩
  rw [check_T3]
  have HB2 := Lib.hid (HB1.out.trans (hb2.mono (by have := HB1.out.size; simpa using this)))
  clear hb2
  go_wp2_with fail
  refine (path_any (fun _ => True) _ _ T3 _ _ (H3.out _ HB2.out)).mono ?_
  rintro e w3 ⟨v, rfl, ho3, hb3⟩
  rw [path_T3] at ho3
  have HB3 := Lib.hid (HB2.out.trans (hb3.mono (by have := HB2.out.size; simpa using this)))
  clear hb3
  obtain ⟨A6, c6, rfl, hc6⟩ := ho3.slice
  have HO3 := Lib.hid ho3
  clear ho3
  go_wp2_with fail
  refine (ints_any (fun _ => True) (fun _ => True) _ _ _ _ [2, 1, 0] [2, 1, 0] _ ((HO3.out.rd.2.move (alloc_same _ _ (fun k h => by rcases h with h | h; exact h.elim; exact h.2))).more (fun _ _ => trivial)) (Rd.lit (heap_new rfl) trivial (by decide) (reps_210 _ _))).mono ?_
  rintro e w4 ⟨rfl, hb4⟩
  have HB4 := Lib.hid ((HB3.out.alloc (by have := HB3.out.size; simp at this; omega) _).trans (hb4.mono (by have := HB3.out.size; simp at this; simp; omega)))
  clear hb4
  go_wp2_with fail
  refine (level_any (fun _ => True) _ _ T3 _ _ (H3.out _ HB4.out)).mono ?_
  rintro e w5 ⟨rfl, hb5⟩
  rw [path_T3]
  have HB5 := Lib.hid (HB4.out.trans (hb5.mono (by have := HB4.out.size; simpa using this)))
  clear hb5
  go_wp2
  go_ret
  exact ⟨rfl, HB0.out.trans (HB5.out.mono (by omega))⟩
end Go.Proofs.Ytnodcekkbbmfnaa.Tree
