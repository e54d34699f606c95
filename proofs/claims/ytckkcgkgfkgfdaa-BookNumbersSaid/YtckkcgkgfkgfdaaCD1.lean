/- slices.Delete of open orders: in a row of one's own. -/
import Derived.Test.YtckkcgkgfkgfdaaCF3
import Derived.WalkKit
import Derived.Deep.RegionLaw
import Derived.Shelf.RegionOpenPlain
import Derived.Lib.Walk
import Derived.Sort.WalkB12
import Derived.Lib.SliceRun
import Derived.Lib.SlicesDelete
set_option linter.unusedVariables false
set_option linter.unusedSimpArgs false
namespace Go.Proofs.Ytckkcgkgfkgfdaa.AM
open Ytckkcgkgfkgfdaa Go.RowKit Go.Lib Go.Sort
theorem run_clear_at {P : Program} {T : Tab} (hT : TabOk P T) {t e ty : TypeId} {s b0 : Nat} {z0 : Option Value} {q : Bool} (hi : tget T t = some ⟨.slice e, s, b0, z0, q⟩) {z : Value} (hv : ∀ w, (zeroValue e).run P w = .ok z w) (h1 : ∀ c ∈ z.cells.toList, c.oneCell' = true) {w : World} {g o n c : Nat} {cur : Array Value} {el : TypeId} (hg : w.heap[g]? = some (.cells cur el (0, 0))) (hn : 0 < n) (hfit : o + n * z.cells.size ≤ cur.size) :
    (Builtin.clear_ #[t] ty #[.slice (some ⟨g, o, none⟩) n c]).run P w = .ok (.tuple #[]) (w.setRow g (cur.toList.take o ++ fl (List.replicate n z) ++ cur.toList.drop (o + n * z.cells.size)).toArray) := by
  have hz : (Builtin.zeroCells z.cells n).toList = fl (List.replicate n z) := made_fl rfl
  have hl : (fl (List.replicate n z)).length = n * z.cells.size := by
    rw [← hz]; simp [Builtin.zeroCells]
  have hst := run_storeCells_at P g o el (fl (List.replicate n z)) 0 cur w hg (by rw [hl]; simpa using hfit) (by
    intro u hu
    simp only [fl, List.mem_flatMap, List.mem_replicate] at hu
    obtain ⟨y, ⟨_, rfl⟩, hy⟩ := hu
    exact h1 u hy)
  simp only [Nat.add_zero, hl] at hst
  obtain ⟨m, rfl⟩ : ∃ m, n = m + 1 := ⟨n - 1, by omega⟩
  simp [Builtin.clear_, run_underlying (hT.und hi), hv, hz, hst]
theorem step_append_at {P : Program} {T : Tab} (hT : TabOk P T) {ops : Array Oper} {o : Oper} {a : Act} {w : World} {K : Act → World → Prop} {Q : Exit → Act → World → Prop} {E : Prop}
    (hg : o.guard = none) (sx x : Operand) {t e : TypeId} {s b0 : Nat} {z : Option Value} {q : Bool} {ei : TI} (hop : o.op = Op.call { callee := Callee.builtin Builtin.append, args := #[sx, x], argTypes := #[t, t] })
    (hi : tget T t = some ⟨.slice e, s, b0, z, q⟩) (he : tget T e = some ei) {b off n cap : Nat} {cur : Array Value} (hb : w.heap[b]? = some (.cells cur e (0, 0))) (hs : a.eval sx = .slice (some ⟨b, off, none⟩) n cap)
    {ad : Addr} {m c : Nat} {news : List Value} (hx : a.eval x = .slice (some ad) m c) (hn : news.length = m * ei.size) (hc : ∀ j u, news[j]? = some u → w.cell? (ad.add j) = some u) (h1c : ∀ u ∈ news, u.oneCell' = true)
    (hroom : n + m ≤ cap) (hfit : off + n * ei.size + news.length ≤ cur.size)
    (hK : K (a.put o.dst (.slice (some ⟨b, off, none⟩) (n + m) cap)) (w.setRow b (cur.toList.take (off + n * ei.size) ++ news ++ cur.toList.drop (off + n * ei.size + news.length)).toArray)) :
    if Region.wanted o (yielded ops a.tmps) = true then Oper.wp P o a w K Q else E := by
  have hw : Region.wanted o (yielded ops a.tmps) = true := by simp [Region.wanted, hg]
  rw [if_pos hw]
  have hrun := run_append_at (c := c) hT (ty := o.type) hi he hb hn hc h1c hroom hfit
  unfold Oper.wp
  simp [execOp, hop, resolve, invoke, builtin, hs, hx, hrun, Result.andThen]
  simp only [List.append_assoc] at hK
  exact hK
set_option maxHeartbeats 4000000 in
set_option maxRecDepth 1000000 in
theorem raw51 {b off cap n i j : Nat} {w : World} {cur : Array Value} {news : List Value} {A : Addr} (hb : w.drew.heap[b]? = some (.cells cur 54 (0, 0))) (hcap : n ≤ cap) (hij : i < j) (hj : j ≤ n) (hn : n ≤ 1000000000000)
    (hA : (if cap = j then some (⟨b, off, none⟩ : Addr) else some ⟨b, off + j * 11, none⟩) = some A) (hsrc : Hid (∀ t u, news[t]? = some u → w.drew.cell? (A.add t) = some u)) (s1 : Hid (news.length = (n - j) * 11)) (s2 : Hid (∀ u ∈ news, u.oneCell' = true)) (s3 : Hid (off + i * 11 + news.length ≤ cur.size))
    {W1 W2 : World} (hW : Hid (W1 = w.drew.setRow b (cur.toList.take (off + i * 11) ++ news ++ cur.toList.drop (off + i * 11 + news.length)).toArray))
    (hcl : ∀ ty, (Builtin.clear_ #[42] ty #[.slice (some ⟨b, off + (i + (n - j)) * 11, none⟩) (n - (i + (n - j))) (cap - (i + (n - j)))]).run Try.prog W1 = .ok (.tuple #[]) W2) :
    Calls Try.prog 51 #[.slice (some ⟨b, off, none⟩) n cap, .int .i64 i, .int .i64 j] w fun e w' => e = .returned (.slice (some ⟨b, off, none⟩) (n - (j - i)) cap) ∧ w' = W2 := by
  have hb' : Hid (w.drew.heap[b]? = some (.cells cur 54 (0, 0))) := hb
  clear hb
  have mixed := mixed
  have hic : i ≤ cap := by omega
  have hjc : j ≤ cap := by omega
  go_enter Try.func51, Try.ntmps51
  go_wp2_with fail
  go_region_law_o (refine step_append_at (sx := .tmp 22) (x := .tmp 25) (n := i) (m := n - j) (cap := cap) (c := cap - j) (b := b) (off := off) (ad := A) (news := news) (cur := cur) (t := 42) (e := 54) tab_ok rfl rfl rfl rfl hb'.out (by simp [Act.eval, Act.put]) (by simp [Act.eval, Act.put]) s1.out hsrc.out s2.out (by omega) s3.out ?_; rw [← hW.out])
  go_wp2
  go_ret
  exact ⟨by rw [show n - (j - i) = i + (n - j) by omega]; rfl, rfl⟩
def zEnt : Value := .agg #[.int .i64 0, .int .i64 0, .int .i64 0, .bool false, .int .i64 0, .int .i64 0, .int .i64 0, .int .i64 0, .int .i64 0, .int .i64 0, .int .i64 0]
theorem zEnt_vr {φ : Phi} {H : Nat → Prop} {w : World} : VR φ H w (eEnt dEnt) zEnt := unl_wk _ φ H w zEnt (vr_ofV (v := zEnt) (by decide))
theorem zEnt_one : ∀ c ∈ zEnt.cells.toList, c.oneCell' = true := by decide
theorem zEnt_run (w : World) : (zeroValue 54).run Try.prog w = .ok zEnt w := by
  have hi : ∃ ti, tget tab 54 = some ti ∧ ti.zero = some zEnt := ⟨_, rfl, rfl⟩
  obtain ⟨ti, h1, h2⟩ := hi
  obtain ⟨f, hf, _, _, hz⟩ := tab_ok.inf h1
  rw [h2] at hz
  simp [zeroValue, typeInfo, hf, hz]
theorem vrs_rep {φ : Phi} {H : Nat → Prop} {w : World} {v : AV} {u : Value} (h : VR φ H w v u) : ∀ n : Nat, VRs φ H w (List.replicate n v) (List.replicate n u)
  | 0 => rfl
  | n + 1 => ⟨u, _, rfl, h, vrs_rep h n⟩
set_option maxRecDepth 20000 in
theorem c51 {P : Program} (hP : Try.prog = P) (ix bs : Nat) (c : AV) (els : List AV) (hc : seqList real c = some els) (n i j : Nat) (zi zj : Int) (hzi : zi = i) (hzj : zj = j) (hn : els.length = n) (hle : n ≤ 1000000000000) (hij : i < j) (hj : j ≤ n) (nx : Nat) : ACalls P 51 [.own ix bs 11 0 n, .int false .i64 zi, .int false .i64 zj] [⟨ix, bs, .row 54 11 c⟩] nx (fun v o m => v = .own ix bs 11 0 (n - (j - i)) ∧ o = [⟨ix, bs, .row 54 11 (.list 11 true true (els.take i ++ els.drop j ++ List.replicate (j - i) (eEnt dEnt)))⟩]) := by
  subst hP hzi hzj
  refine ⟨fun φ H F w vs hR hvs => .inl ⟨⟨_, Try.func51, by kernel_rfl, by kernel_rfl⟩, ?_⟩⟩
  obtain ⟨u, _, rfl, hu, u1, _, rfl, hu1, u2, _, rfl, hu2, hnil⟩ := hvs
  have hu1 : u1 = .int .i64 i := hu1
  have hu2 : u2 = .int .i64 j := hu2
  have hnil : _ = [] := hnil
  subst hu1 hu2 hnil
  rcases hu with ⟨b, o, cap, T, N, hφ, rfl, hcap, hshape, hN, hfz⟩ | ⟨h0, _⟩
  · obtain ⟨hH, hF, els', pre, us, rest, k0, hb, ho, hv, h1⟩ := hR.obs _ List.mem_cons_self b o hφ
    rw [hc] at k0
    cases k0
    subst ho
    have hus : us.length = n := (vrs_len hv).symm.trans hn
    have hfl : (fl us).length = n * 11 := by rw [fl_len h1, hus]
    have hb2 : w.drew.heap[b]? = some (.cells (pre ++ (fl us ++ rest)).toArray 54 (0, 0)) := hb
    have hnews : (fl (us.drop j)).length = (n - j) * 11 := by rw [fl_len (ones_drop h1 j), List.length_drop, hus]
    obtain ⟨W1, hW1⟩ : ∃ W1, W1 = w.drew.setRow b (pre ++ (fl (us.take i ++ us.drop j ++ us.drop (i + (n - j))) ++ rest)).toArray := ⟨_, rfl⟩
    obtain ⟨W2, hW2⟩ : ∃ W2, W2 = W1.setRow b (pre ++ (fl (us.take i ++ us.drop j ++ List.replicate (j - i) zEnt) ++ rest)).toArray := ⟨_, rfl⟩
    have hl1 : (us.take i ++ us.drop j).length = i + (n - j) := by simp [hus]; omega
    have e1 : W1 = w.drew.setRow b ((pre ++ (fl us ++ rest)).toArray.toList.take (pre.length + i * 11) ++ fl (us.drop j) ++ (pre ++ (fl us ++ rest)).toArray.toList.drop (pre.length + i * 11 + (fl (us.drop j)).length)).toArray := by
      have := over_len (pre := pre) (us := fl us) (rest := rest) (ys := fl (us.drop j)) (k := i * 11) (by rw [hnews, hfl]; omega)
      rw [hW1, List.toList_toArray, this, fl_append, fl_append, fl_take h1, fl_drop h1 (i + (n - j)), hnews, Nat.add_mul]
    obtain ⟨A, hA, hsrc⟩ : ∃ A : Addr, (if cap = j then (some ⟨b, pre.length + 0 * 11, none⟩ : Option Addr) else some ⟨b, pre.length + 0 * 11 + j * 11, none⟩) = some A ∧ Hid (∀ t u, (fl (us.drop j))[t]? = some u → w.drew.cell? (A.add t) = some u) := by
      by_cases h : cap = j
      · refine ⟨⟨b, pre.length + 0 * 11, none⟩, by rw [if_pos h], fun t u hu => ?_⟩
        have h0 : (fl (us.drop j)).length = 0 := by rw [hnews, show n - j = 0 by omega]
        rw [List.length_eq_zero_iff.1 h0] at hu
        simp at hu
      · refine ⟨⟨b, pre.length + 0 * 11 + j * 11, none⟩, by rw [if_neg h], fun t u hu => ?_⟩
        have r := range_drop (range_mid hb2) (j * 11)
        rw [← fl_drop h1] at r
        have := r t u hu
        rw [Addr.add_lit]
        simpa using this
    have hb1 : W1.heap[b]? = some (.cells (pre ++ (fl (us.take i ++ us.drop j ++ us.drop (i + (n - j))) ++ rest)).toArray 54 (0, 0)) := by rw [hW1]; exact setRow_heap w.drew b _ _ 54 _ hb2
    have hone1 : Ones 11 (us.take i ++ us.drop j ++ us.drop (i + (n - j))) := ones_append (ones_append (ones_take h1 i) (ones_drop h1 j)) (ones_drop h1 _)
    have honez : Ones 11 (List.replicate (j - i) zEnt) := fun x hx => by rw [List.eq_of_mem_replicate hx]; exact ⟨rfl, zEnt_one⟩
    have hcl : ∀ ty, (Builtin.clear_ #[42] ty #[.slice (some ⟨b, pre.length + 0 * 11 + (i + (n - j)) * 11, none⟩) (n - (i + (n - j))) (cap - (i + (n - j)))]).run Try.prog W1 = .ok (.tuple #[]) W2 := fun ty => by
      have hr := run_clear_at tab_ok (t := 42) (e := 54) (ty := ty) rfl zEnt_run zEnt_one hb1 (o := pre.length + (i + (n - j)) * 11) (n := n - (i + (n - j))) (c := cap - (i + (n - j))) (by omega) (by
        show pre.length + (i + (n - j)) * 11 + (n - (i + (n - j))) * 11 ≤ _
        simp only [List.size_toArray, List.length_append, fl_len hone1, List.length_take, List.length_drop, hus]
        omega)
      rw [Nat.zero_mul, Nat.add_zero, hr, hW2]
      have hy : (fl (List.replicate (n - (i + (n - j))) zEnt)).length = (n - (i + (n - j))) * 11 := by
        rw [show n - (i + (n - j)) = j - i by omega, fl_len honez, List.length_replicate]
      have := over_len (pre := pre) (us := fl (us.take i ++ us.drop j ++ us.drop (i + (n - j)))) (rest := rest) (ys := fl (List.replicate (n - (i + (n - j))) zEnt)) (k := (i + (n - j)) * 11) (by
        rw [hy, fl_len hone1]
        simp only [List.length_append, List.length_take, List.length_drop, hus]
        omega)
      rw [hy] at this
      show Result.ok _ (W1.setRow b _) = _
      rw [List.toList_toArray, show (n - (i + (n - j))) * zEnt.cells.size = (n - (i + (n - j))) * 11 from rfl, this]
      congr 4
      have t1 : (us.take i ++ us.drop j ++ us.drop (i + (n - j))).take (i + (n - j)) = us.take i ++ us.drop j := List.take_left' hl1
      have t2 : (us.take i ++ us.drop j ++ us.drop (i + (n - j))).drop (i + (n - j) + (n - (i + (n - j)))) = [] := List.drop_of_length_le (by simp only [List.length_append, List.length_take, List.length_drop, hus]; omega)
      rw [← fl_take hone1, ← Nat.add_mul, ← fl_drop hone1, t1, t2, show n - (i + (n - j)) = j - i by omega, fl_append (us.take i ++ us.drop j)]
      simp [fl]
    have hraw := raw51 (off := pre.length + 0 * 11) (W2 := W2) hb2 hcap hij hj hle hA hsrc hnews (fun u hu => fl_one (ones_drop h1 j) u hu) (by
      show pre.length + 0 * 11 + i * 11 + _ ≤ _
      rw [hnews]
      simp only [List.size_toArray, List.length_append, hfl]
      omega) (W1 := W1) (by rw [Nat.zero_mul, Nat.add_zero]; exact e1) hcl
    refine hraw.mono ?_
    rintro e w' ⟨rfl, rfl⟩
    have hfin : w' = w.drew.setRow b (pre ++ (fl (us.take i ++ us.drop j ++ List.replicate (j - i) zEnt) ++ rest)).toArray := by rw [hW2, hW1, setRow_setRow]
    have hsz : (pre ++ (fl (us.take i ++ us.drop j ++ List.replicate (j - i) zEnt) ++ rest)).toArray.size = (pre ++ (fl us ++ rest)).toArray.size := by
      simp only [List.size_toArray, List.length_append, fl_len (ones_append (ones_append (ones_take h1 i) (ones_drop h1 j)) honez), hfl, List.length_take, List.length_drop, List.length_replicate, hus]
      omega
    have hx := hR.drew.ext_set hb2 hsz hH hF
    have hrel := hR.drew.perm_set (ix := ix) (en := ⟨ix, bs, .row 54 11 c⟩) (by simp [find]) hφ hb2 hsz (o' := .row 54 11 (.list 11 true true (els.take i ++ els.drop j ++ List.replicate (j - i) (eEnt dEnt)))) ⟨_, pre, _, rest, rfl, setRow_heap w.drew b _ _ 54 _ hb2, rfl, vrs_append (vrs_append (hx.up.vrs _ _ ((ext_drew φ H F nx w).up.vrs _ _ (vrs_take hv i))) (hx.up.vrs _ _ ((ext_drew φ H F nx w).up.vrs _ _ (vrs_drop hv j)))) (vrs_rep zEnt_vr _), ones_append (ones_append (ones_take h1 i) (ones_drop h1 j)) honez⟩
    rw [← hfin] at hx hrel
    rw [show setOb [⟨ix, bs, .row 54 11 c⟩] ix (.row 54 11 (.list 11 true true (els.take i ++ els.drop j ++ List.replicate (j - i) (eEnt dEnt)))) = [⟨ix, bs, .row 54 11 (.list 11 true true (els.take i ++ els.drop j ++ List.replicate (j - i) (eEnt dEnt)))⟩] by simp [setOb]] at hrel
    refine ⟨_, _, nx, φ, H, ⟨rfl, rfl⟩, (ext_drew φ H F nx w).trans hx, hrel, .inl ⟨b, pre.length, cap, T, N, hφ, rfl, by omega, hx.up.shp _ _ _ ((ext_drew φ H F nx w).up.shp _ _ _ hshape), hN, hx.up.frz _ _ _ ((ext_drew φ H F nx w).up.shp _ _ _ hshape) ((ext_drew φ H F nx w).up.frz _ _ _ hshape hfz)⟩⟩
  · omega
theorem c51l {P : Program} (hP : Try.prog = P) (ix bs : Nat) (l : List AV) (n i j : Nat) (zi zj : Int) (hzi : zi = i) (hzj : zj = j) (hn : l.length = n) (hle : n ≤ 1000000000000) (hij : i < j) (hj : j ≤ n) (nx : Nat) : ACalls P 51 [.own ix bs 11 0 n, .int false .i64 zi, .int false .i64 zj] [⟨ix, bs, .row 54 11 (.list 11 true true l)⟩] nx (fun v o m => ∃ l' n', v = .own ix bs 11 0 n' ∧ n' = n - (j - i) ∧ l' = l.take i ++ l.drop j ++ List.replicate (j - i) (eEnt dEnt) ∧ o = [⟨ix, bs, .row 54 11 (.list 11 true true l')⟩]) :=
  (c51 hP ix bs _ l rfl n i j zi zj hzi hzj hn hle hij hj nx).mono fun v o m h => ⟨_, _, h.1, rfl, rfl, h.2⟩
theorem c51m {P : Program} (hP : Try.prog = P) (ix bs : Nat) (l : List BEnt) (n i j : Nat) (zi zj : Int) (hzi : zi = i) (hzj : zj = j) (hn : l.length = n) (hle : n ≤ 1000000000000) (hij : i < j) (hj : j ≤ n) (nx : Nat) : ACalls P 51 [.own ix bs 11 0 n, .int false .i64 zi, .int false .i64 zj] [⟨ix, bs, .row 54 11 (.mlist 11 true true BEnt eEnt dEnt l)⟩] nx (fun v o m => ∃ l' n', v = .own ix bs 11 0 n' ∧ n' = n - (j - i) ∧ l' = (l.take i ++ l.drop j ++ List.replicate (j - i) dEnt).map eEnt ∧ o = [⟨ix, bs, .row 54 11 (.list 11 true true l')⟩]) :=
  (c51 hP ix bs _ (l.map eEnt) rfl n i j zi zj hzi hzj (by rw [List.length_map]; exact hn) hle hij hj nx).mono fun v o m h => ⟨_, _, h.1, rfl, by simp, h.2⟩
end Go.Proofs.Ytckkcgkgfkgfdaa.AM
