/- slices.Repeat of one number, by hand. -/
import Derived.Test.YtgikjgekdeaneaaQCellsNewsx1
import Derived.Test.YtgikjgekdeaneaaCells
import Derived.Laws.CopyOwn
import Derived.Sort.Walk7
import Derived.Deep.RegionLaw
namespace Go.Proofs.Ytgikjgekdeaneaa.Cells
open Go.RowKit Go.Proofs.Ytgikjgekdeaneaa.QCellsNews Go.Proofs.YtgikjgekdeaneaaW.PrintWords Go.Proofs.YtgikjgekdeaneaaW.PrintLast Go.Proofs.YtgikjgekdeaneaaW.PrintMore
set_option linter.unusedVariables false
set_option linter.unusedSimpArgs false
theorem u64_in (x : Int) (h0 : 0 ≤ x) (h1 : x ≤ 18446744073709551615) : IntKind.u64.wrap x = x := by rw [show IntKind.u64.wrap x = x % 18446744073709551616 from rfl]; omega
theorem mask (x : Nat) (h : x < 4294967296) : Go.bits .and .u64 (x : Int) 4294967295 = (x : Int) := by
  rw [show (4294967295 : Int) = ((4294967295 : Nat) : Int) by rfl, bits_and_u64_nat _ _ (by omega) (by omega)]
  rw [show 4294967295 = 2 ^ 32 - 1 by decide, Nat.and_two_pow_sub_one_eq_mod]
  congr 1
  exact Nat.mod_eq_of_lt h
theorem mul_one_ (c : Nat) (hc : c ≤ 65536) : bits_Mul.f 1 (c : Int) = some (0, (c : Int)) := by
  have hm := mask c (by omega)
  have h1 : Go.bits .and .u64 (1 : Int) 4294967295 = 1 := mask 1 (by decide)
  have h0 : Go.bits .and .u64 (0 : Int) 4294967295 = 0 := mask 0 (by decide)
  have d1 : (1 : Int) / 4294967296 = 0 := by decide
  have dc : (c : Int) / 4294967296 = 0 := by omega
  unfold bits_Mul.f bits_Mul64.f
  rw [hm, h1, d1, dc]
  simp only [Int.mul_zero, Int.zero_mul, Int.one_mul, Int.zero_add, Int.add_zero]
  rw [u64_in 0 (by omega) (by omega), u64_in (c : Int) (by omega) (by omega), dc]
  simp only [Int.add_zero, Int.zero_add]
  rw [u64_in 0 (by omega) (by omega), h0]
  simp [u64_in 0 (by omega) (by omega)]
theorem info3 : (Try.prog.info? 3).map (fun i => (i.zero, i.size, i.bytes)) = some (some (.int .i64 0), 1, 8) := by kernel_rfl
theorem under57 : Try.prog.underlying 57 = some (.slice 3) := by kernel_rfl
theorem size3 : (Try.prog.info? 3).map (·.size) = some 1 := by kernel_rfl
/-- The cells when m of c are written. -/
def rp (c m : Nat) : List Value := List.replicate m (.int .i64 (-1)) ++ List.replicate (c - m) (.int .i64 0)
theorem rp_len (c m : Nat) (h : m ≤ c) : (rp c m).length = c := by simp [rp]; omega
theorem rp_splice (c m k : Nat) (h : m + k ≤ c) : splice (rp c m) m (List.replicate k (.int .i64 (-1))) = rp c (m + k) := by
  unfold splice rp
  rw [List.take_left' (by simp), List.length_replicate, List.drop_append, List.length_replicate, List.drop_eq_nil_of_le (by simp), List.nil_append, List.drop_replicate, ← List.append_assoc, List.replicate_append_replicate, show c - m - (m + k - m) = c - (m + k) by omega]
theorem rp_at (c m j : Nat) (h : j < m) : (rp c m)[j]? = some (.int .i64 (-1)) := by
  unfold rp
  rw [List.getElem?_append_left (by simpa using h), List.getElem?_replicate, if_pos h]
theorem cells_rp (c : Nat) : madeCells #[.int .i64 0] c = (rp c 0).toArray := by
  apply Array.ext'
  rw [toList_madeCells_one]
  simp [rp]
theorem make_ (c : Nat) (hc : c ≤ 65536) (W : World) : (Instr.makeSlice 57 (.int .i64 (c : Int)) (.int .i64 (c : Int))).run Try.prog W = .ok (.slice (some ⟨W.heap.size, 0, none⟩) c c) (W.alloc (.cells (rp c 0).toArray 3)) := by
  obtain ⟨i, hi, hz, hs, hb⟩ := info_parts info3
  have := run_make (P := Try.prog) W 57 3 i _ under57 hi hz .i64 .i64 c c (by omega) (by omega) (by rw [hb]; omega) (by omega)
  rw [this, hs, Nat.mul_one, Int.toNat_natCast]
  exact congrArg (fun x => Result.ok (Value.slice (some ⟨W.heap.size, 0, none⟩) c c) (W.alloc (.cells x 3))) (cells_rp c)
/-- What copy does to a row of which m of c are written: k more. -/
theorem copy_run (W : World) (g c m k dL dC sL sC : Nat) (a : Addr) (hg : W.heap[g]? = some (.cells (rp c m).toArray 3 (0, 0))) (hk : k = min sL dL) (hmk : m + k ≤ c) (hsrc : ∀ j, j < k → W.cell? (a.add j) = some (.int .i64 (-1))) :
    (Builtin.copy_ #[57, 57] 3 #[.slice (some ⟨g, m, none⟩) dL dC, .slice (some a) sL sC]).run Try.prog W = .ok (.int .i64 (k : Int)) (W.setRow g (rp c (m + k)).toArray) := by
  have := run_copy_row (P := Try.prog) W 57 57 3 3 g m dL dC a sL sC (rp c m).toArray 3 (List.replicate k (.int .i64 (-1))) under57 size3 hg (by rw [List.length_replicate]; exact hk) (fun j v hv => by
    rw [List.getElem?_replicate] at hv
    split at hv
    · rw [hsrc j (by assumption), hv]
    · cases hv) (by simp only [List.length_replicate, List.size_toArray]; rw [rp_len c m (by omega)]; exact hmk) (fun v hv => by rw [List.eq_of_mem_replicate hv]; rfl)
  rw [this, ← rp_splice c m k hmk]
  simp only [splice, List.length_replicate, List.append_assoc]
  rfl
theorem set_heap (W : World) (g c m k : Nat) (hg : W.heap[g]? = some (.cells (rp c m).toArray 3 (0, 0))) : (W.setRow g (rp c k).toArray).heap[g]? = some (.cells (rp c k).toArray 3 (0, 0)) := setRow_heap W g _ _ 3 _ hg
set_option maxHeartbeats 8000000 in
set_option maxRecDepth 100000 in
theorem repeat_ (gx : Nat) (tx : TypeId) (c : Nat) (hc : c ≤ 65536) (w : World) (hx : w.heap[gx]? = some (.cells #[.int .i64 (-1)] tx (0, 0))) :
  Calls Try.prog 70 #[.slice (some ⟨gx, 0, none⟩) 1 1, .int .i64 (c : Int)] w fun e w' => ∃ gr, w.heap.size ≤ gr ∧ e = .returned (.slice (some ⟨gr, 0, none⟩) c c) ∧ Row w' .i64 gr (List.replicate c (-1)) ∧ Below w.heap.size w w' := by
 have hm := mul_one_ c hc
 have c0 := decide_eq_false (show ¬ (c : Int) < 0 by omega)
 have hmk := make_ c hc
 have cv1 : IntKind.u64.wrap (c : Int) = c := u64_in _ (by omega) (by omega)
 have cv2 : IntKind.i64.wrap (c : Int) = c := by rw [IntKind.wrap_i64]; omega
 go_enter Try.func70, Try.ntmps70
 have hcp : ∀ nd : Nat, (Builtin.copy_ #[57, 57] 3 #[.slice (some ⟨w.heap.size, 0, none⟩) c c, .slice (some ⟨gx, 0, none⟩) 1 1]).run Try.prog ((w.drewN nd).alloc (.cells (rp c 0).toArray 3)) = .ok (.int .i64 ((min 1 c : Nat) : Int)) (((w.drewN nd).alloc (.cells (rp c 0).toArray 3)).setRow w.heap.size (rp c (0 + min 1 c)).toArray) := by
  intro nd
  refine copy_run _ w.heap.size c 0 (min 1 c) c c 1 1 _ (heap_alloc_new (w.drewN nd) _) rfl (by omega) (fun j hj => ?_)
  obtain rfl : j = 0 := by omega
  exact (blk_cell (blk_alloc (w := w.drewN nd) hx _) 0).trans rfl
 rw [Nat.zero_add] at hcp
 go_wp2_with (go_at_call 100; refine (bits_Mul.calls 1 c 0 c _ hm).mono ?_; rintro e w' ⟨rfl, ⟨nd, rfl⟩⟩)
 clear hcp
 go_loopg [8] (c + 1) (fun kq v8 w' => ∃ m : Nat, v8 = .int .i64 (m : Int) ∧ Aside0 (c + 1 ≤ kq + m ∧ m ≤ c ∧ (0 < c → 0 < m)) ∧ Aside0 (w'.heap[w.heap.size]? = some (.cells (rp c m).toArray 3 (0, 0))) ∧ Aside0 (Below w.heap.size w w'))
 case atStart => exact ⟨min 1 c, rfl, ⟨by omega⟩, ⟨set_heap _ _ _ _ _ (heap_alloc_new (w.drewN nd) _)⟩, ⟨below_setRow ((pw_below_drewN (Below.refl _ _) _).alloc (Nat.le_refl _) _) (Nat.le_refl _) _⟩⟩
 case round =>
  obtain ⟨m, rfl, HM, HG, HB⟩ := hrel
  by_cases c1 : (m : Int) < c
  · have c1b := decide_eq_true c1
    have hm := HM.out
    have p0 : 0 ≤ (m : Int) := by omega
    have p1 : (m : Int) ≤ c := by omega
    have hne : ¬ c = m := by omega
    obtain ⟨k, hk⟩ : ∃ k, k = min m (c - m) := ⟨_, rfl⟩
    go_wp2
    have hkm : k ≤ m ∧ m + k ≤ c ∧ 0 < k := by omega
    have hsrc : ∀ (j : Nat) (v : Value), (List.replicate k (Value.int .i64 (-1)))[j]? = some v → wr.drew.cell? ((⟨w.heap.size, 0, none⟩ : Addr).add j) = some v := by
      intro j v hv
      rw [List.getElem?_replicate] at hv
      split at hv
      · have e : (⟨w.heap.size, 0, none⟩ : Addr).add j = ⟨w.heap.size, j, none⟩ := by unfold Addr.add; simp; omega
        rw [e, ← hv]
        refine (blk_cell (w := wr) HG.out j).trans ?_
        rw [List.getElem?_toArray]
        exact rp_at c m j (by omega)
      · cases hv
    go_region_law (refine step_copy_splice rfl (.tmp 41) (.tmp 44) 57 57 rfl 3 under57 size3 (some ⟨w.heap.size, m, none⟩) (some ⟨w.heap.size, 0, none⟩) (c - m) (c - m) m c ?hd ?hs w.heap.size m (rp c m) 3 HG.out (List.replicate k (.int .i64 (-1))) ?hn ?hpos ?hfit ?h1 w.heap.size w (below_drew HB.out) (Nat.le_refl _) ?_; (case hd => go_simp); (case hs => go_simp); (case hn => rw [List.length_replicate]; exact hk); (case hpos => exact fun _ => ⟨rfl, _, rfl, hsrc⟩); (case hfit => rw [List.length_replicate, rp_len c m (by omega)]; omega); (case h1 => intro v hv; rw [List.eq_of_mem_replicate hv]; rfl); intro w2 hg2 hb2)
    have hg3 : w2.heap[w.heap.size]? = some (.cells (rp c (m + k)).toArray 3 (0, 0)) := by
      rw [← rp_splice c m k hkm.2.1]; exact hg2
    have hg4 := Aside0.mk hg3
    have hb4 := Aside0.mk hb2
    clear hg2 hg3 hb2 hsrc
    go_wp2
    go_roundg (c + 1 - (m + k))
    case measure => omega
    case rel => exact ⟨m + k, (by simp; rw [IntKind.wrap_i64]; omega), ⟨by omega⟩, hg4, hb4⟩
  · have c1b := decide_eq_false c1
    go_wp2
    go_ret
    have hm := HM.out
    have e : m = c := by omega
    subst e
    refine ⟨w.heap.size, Nat.le_refl _, rfl, ⟨3, ?_⟩, HB.out⟩
    have := HG.out
    rw [show ((List.replicate m (-1 : Int)).map (Value.int .i64)) = rp m m by simp [rp]]
    exact this
end Go.Proofs.Ytgikjgekdeaneaa.Cells
