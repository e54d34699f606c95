/- What arithmetic, comparisons, cuts and built values mean in a world. Plain laws; no condition. -/
import Derived.Test.YtckkcgkgfkgfdaaAmD
import Derived.Laws.Pointers
namespace Go.Proofs.Ytckkcgkgfkgfdaa.AM
section
variable {φ : Phi} {H : Nat → Prop} {F : Fr} {w : World} {ob : List Ent} {nx : Nat} {P : Program} {T : Tab}
theorem sameK_eq {k k' : IntKind} (h : sameK k k' = true) : k = k' := by cases k <;> cases k' <;> first | rfl | (simp [sameK] at h)
theorem aarith_ok {op : BinOp} {k : IntKind} {lit : Bool} {a b : Int} {cs : List Bool} {v : AV} (h : aarith real op k lit a b = some (cs, v)) (hc : ∀ c ∈ cs, c = true) (t : TypeId) :
    ∃ z, (binOp op t (.int k a) (.int k b)).run P w = .ok z w ∧ VR φ H w v z := by
  cases op <;> simp only [aarith, pk_real, Option.some.injEq, Prod.mk.injEq, reduceCtorEq] at h <;> obtain ⟨rfl, rfl⟩ := h
  case add => exact ⟨.int k (k.wrap (a + b)), by simp [binOp, Op.intArith], by cases lit <;> simp [VR, real]⟩
  case sub => exact ⟨.int k (k.wrap (a - b)), by simp [binOp, Op.intArith], by cases lit <;> simp [VR, real]⟩
  case mul => exact ⟨.int k (k.wrap (a * b)), by simp [binOp, Op.intArith], by cases lit <;> simp [VR, real]⟩
  case quo =>
    have hb : b ≠ 0 := by have := hc _ List.mem_cons_self; simpa [real] using this
    exact ⟨.int k (k.wrap (a.tdiv b)), by simp [binOp, Op.intDiv, hb], by cases lit <;> simp [VR, real]⟩
  case rem =>
    have hb : b ≠ 0 := by have := hc _ List.mem_cons_self; simpa [real] using this
    exact ⟨.int k (a.tmod b), by simp [binOp, Op.intDiv, hb], by cases lit <;> simp [VR, real]⟩
  case and => exact ⟨.int k (bitsOf .and k a b), by simp [binOp, Op.intBits, bitsOf], by simp [VR, real]⟩
  case or => exact ⟨.int k (bitsOf .or k a b), by simp [binOp, Op.intBits, bitsOf], by simp [VR, real]⟩
  case xor => exact ⟨.int k (bitsOf .xor k a b), by simp [binOp, Op.intBits, bitsOf], by simp [VR, real]⟩
  case andNot => exact ⟨.int k (bitsOf .andNot k a b), by simp [binOp, Op.intBits, bitsOf], by simp [VR, real]⟩
  case eql => exact ⟨.bool (a == b), by simp [binOp, Op.intCmp], by cases lit <;> simp [VR, real]⟩
  case neq => exact ⟨.bool (a != b), by simp [binOp, Op.intCmp], by cases lit <;> simp [VR, real, bne]⟩
  case lss => exact ⟨.bool (a < b), by simp [binOp, Op.intCmp], by cases lit <;> simp [VR, real]⟩
  case leq => exact ⟨.bool (a ≤ b), by simp [binOp, Op.intCmp], by cases lit <;> simp [VR, real]⟩
  case gtr => exact ⟨.bool (a > b), by simp [binOp, Op.intCmp], by cases lit <;> simp [VR, real]⟩
  case geq => exact ⟨.bool (a ≥ b), by simp [binOp, Op.intCmp], by cases lit <;> simp [VR, real]⟩
def EqAt (P : Program) (T : Tab) (φ : Phi) (H : Nat → Prop) (w : World) (n : Nat) : Prop :=
  ∀ (t : TypeId) (x y : AV) (u v : Value) (b : Bool), VR φ H w x u → VR φ H w y v → aeq real T n t x y = some b → ∀ d, n ≤ d → (Op.equalIn d t u v).run P w = .ok b w
theorem eqs_ok (hT : TabOk P T) (n : Nat) (IH : EqAt P T φ H w n) : ∀ (fs : List Field) (xs ys : List AV) (us vs : List Value) (b : Bool), VRs φ H w xs us → VRs φ H w ys vs → (∀ c ∈ us, c.oneCell' = true) → (∀ c ∈ vs, c.oneCell' = true) →
    (∀ g ∈ fs, g.name ≠ "_") → aeq.eqs real T n fs xs ys = some b → ∀ d, n ≤ d → (Op.eqFields d us.toArray vs.toArray fs).run P w = .ok b w
  | [], xs, ys, us, vs, b, hr, hs, h1, h2, hn, h, d, hd => by
    simp [aeq.eqs] at h
    subst h
    simp [Op.eqFields]
  | f :: fs, xs, ys, us, vs, b, hr, hs, h1, h2, hn, h, d, hd => by
    rw [aeq.eqs] at h
    cases hi : tget T f.type with
    | none => simp [hi] at h
    | some i =>
      simp only [hi] at h
      cases hx : ofCells i xs f.offset with
      | none => simp [hx] at h
      | some x =>
        cases hy : ofCells i ys f.offset with
        | none => simp [hx, hy] at h
        | some y =>
          simp only [hx, hy] at h
          cases ha : aeq real T n f.type x y with
          | none => simp [ha] at h
          | some p =>
            cases hb : aeq.eqs real T n fs xs ys with
            | none => simp [ha, hb] at h
            | some q =>
              simp [ha, hb] at h
              subst h
              obtain ⟨u, hu, hvu⟩ := part_cells hT hi hr h1 hx
              obtain ⟨v, hv, hvv⟩ := part_cells hT hi hs h2 hy
              have e1 := IH f.type x y u v p hvu hvv ha d hd
              have e2 := eqs_ok hT n IH fs xs ys us vs q hr hs h1 h2 (fun g hg => hn g (List.mem_cons_of_mem _ hg)) hb d hd
              simp only [Op.eqFields, if_pos (hn f List.mem_cons_self), Sem.run_bind, hu, hv, e1, Result.andThen_ok]
              cases p with
              | false => simp [real]
              | true => simpa [real] using e2
theorem aeqS_ok {t : TypeId} {d : TypeDesc} (hund : P.underlying t = some d) {x y : AV} {u v : Value} (hu : VR φ H w x u) (hv : VR φ H w y v) {b : Bool} (h : aeqS real d x y = some b) (n : Nat) : (Op.equalIn (n + 1) t u v).run P w = .ok b w := by
  unfold aeqS at h
  split at h
  · rename_i q
    cases x <;> try (simp at h; done)
    rename_i l k a
    cases y <;> try (simp at h; done)
    rename_i l' k' b'
    have hu : u = .int k a := hu
    have hv : v = .int k' b' := hv
    subst hu; subst hv
    cases hk : sameK k k' with
    | false => simp [hk] at h
    | true =>
      obtain rfl := sameK_eq hk
      simp [hk] at h
      subst h
      exact run_equalIn_int w n t k q a b' hund
  · cases x <;> try (simp at h; done)
    rename_i a
    cases y <;> try (simp at h; done)
    rename_i b'
    have hu : u = .bool a := hu
    have hv : v = .bool b' := hv
    subst hu; subst hv
    simp at h
    subst h
    exact run_equalIn_bool w n t a b' hund
  · cases x <;> try (simp at h; done)
    rename_i c
    cases c <;> try (simp at h; done)
    rename_i a
    cases y <;> try (simp at h; done)
    rename_i c
    cases c <;> try (simp at h; done)
    rename_i b'
    have hu : u = .string a := hu
    have hv : v = .string b' := hv
    subst hu; subst hv
    simp at h
    subst h
    exact run_equalIn_string w n t a b' hund
  · cases x <;> try (simp at h; done)
    rename_i c
    cases c <;> try (simp at h; done)
    rename_i k a
    cases k <;> try (simp at h; done)
    cases y <;> try (simp at h; done)
    rename_i c
    cases c <;> try (simp at h; done)
    rename_i k b'
    cases k <;> try (simp at h; done)
    have hu : u = .float .f64 a := hu
    have hv : v = .float .f64 b' := hv
    subst hu; subst hv
    simp at h
    subst h
    simp [Op.equalIn, run_underlying hund, Op.floatEq, real, fcmpOf]
  · simp at h
theorem aeq_ok (hT : TabOk P T) : ∀ (n : Nat), EqAt P T φ H w n
  | 0, t, x, y, u, v, b, hu, hv, h, d, hd => by simp [aeq] at h
  | n + 1, t, x, y, u, v, b, hu, hv, h, d, hd => by
    obtain ⟨d, rfl⟩ : ∃ q, d = q + 1 := ⟨d - 1, by omega⟩
    rw [aeq] at h
    cases hi : tget T t with
    | none => simp [hi] at h
    | some i =>
      simp only [hi] at h
      have hund := hT.und hi
      cases x
      case agg xs =>
        simp only at h
        cases y <;> try (simp at h; done)
        rename_i ys
        simp only at h
        cases hd' : i.desc <;> rw [hd'] at h <;> try (simp at h; done)
        rename_i fs
        simp only at h
        obtain ⟨us, rfl, h1, hr⟩ := hu
        obtain ⟨vs, rfl, h2, hs⟩ := hv
        cases hq : i.eqok with
        | false => simp [hq] at h
        | true =>
          rw [hq, cond_true] at h
          obtain ⟨_, f, _, _, _, h3⟩ := hT t i hi
          obtain ⟨_, h4, h5⟩ := h3 hq
          have hfs : P.fieldsOf t = fs := by unfold Program.fieldsOf; rw [hund, hd']
          rw [run_equalIn_struct w d t _ _ (by rw [hfs, hund, hd']) h4, hfs]
          exact eqs_ok hT n (aeq_ok hT n) fs.toList xs ys us vs b hr hs h1 h2 (h5 fs hd') h d (by omega)
      all_goals exact aeqS_ok hund hu hv h d
theorem aeq_agg {n : Nat} {t : TypeId} {xs ys : List AV} {b : Bool} (h : aeq real T (n + 1) t (.agg xs) (.agg ys) = some b) : ∃ i, tget T t = some i ∧ i.eqok = true := by
  rw [aeq] at h
  cases hi : tget T t with
  | none => simp [hi] at h
  | some i =>
    refine ⟨i, rfl, ?_⟩
    simp only [hi] at h
    cases hd : i.desc <;> rw [hd] at h <;> try (simp at h; done)
    cases hq : i.eqok with
    | true => rfl
    | false => simp [hq] at h
theorem isPtr_of {y : AV} {v : Value} (h : isPtr y = true) (hv : VR φ H w y v) : ∃ ad, v = .pointer (some ad) := by
  cases y <;> try (simp [isPtr] at h; done)
  case ptr => obtain ⟨b, o, _, rfl⟩ := hv; exact ⟨_, rfl⟩
  case rptr => obtain ⟨b, o, _, rfl⟩ := hv; exact ⟨_, rfl⟩
  case hptr => obtain ⟨x, ad, _, rfl, _⟩ := hv; exact ⟨_, rfl⟩
theorem aeqNil_ok {op : BinOp} {b : Bool} {cs : List Bool} {v : AV} (h : aeqNil op b = some (cs, v)) {t : TypeId} {x y : Value} (he : (Op.equal t x y).run P w = .ok b w)
    (hne : ∀ op', op' = BinOp.eql ∨ op' = .neq → (binOp op' t x y).run P w = ((Op.equal t x y).run P w).andThen fun b w' => .ok (.bool (if op' = .eql then b else !b)) w') : ∃ z, (binOp op t x y).run P w = .ok z w ∧ VR φ H w v z := by
  unfold aeqNil at h
  split at h
  · simp at h
    obtain ⟨rfl, rfl⟩ := h
    refine ⟨.bool b, ?_, rfl⟩
    rw [hne _ (.inl rfl), he]
    rfl
  · simp at h
    obtain ⟨rfl, rfl⟩ := h
    refine ⟨.bool (!b), ?_, ?_⟩
    · rw [hne _ (.inr rfl), he]
      rfl
    · cases b <;> rfl
  · simp at h
theorem aptrP_ok {op : BinOp} {t e : TypeId} (hund : P.underlying t = some (.pointer e)) {x y : AV} {u v : Value} (hu : VR φ H w x u) (hv : VR φ H w y v) {cs : List Bool} {r : AV} (h : aptrP op x y = some (cs, r)) (X Y : Operand) :
    ∃ z, ((do eqGuard op t X Y u v; binOp op t u v) : Sem Value).run P w = .ok z w ∧ VR φ H w r z := by
  have fin : ∀ (p q : Option Addr) (b : Bool), (∀ d, (Op.equalIn (d + 1) t (.pointer p) (.pointer q)).run P w = .ok b w) → aeqNil op b = some (cs, r) →
      ∃ z, ((do eqGuard op t X Y (.pointer p) (.pointer q); binOp op t (.pointer p) (.pointer q)) : Sem Value).run P w = .ok z w ∧ VR φ H w r z := fun p q b he h => by
    obtain ⟨z, hz, hr⟩ := aeqNil_ok (P := P) (φ := φ) (H := H) (w := w) h (t := t) (x := .pointer p) (y := .pointer q) (he 9999) (by rintro op' (rfl | rfl) <;> simp [binOp])
    refine ⟨z, ?_, hr⟩
    cases op <;> first | (simp [aeqNil] at h; done) | (simp only [eqGuard]; simpa using hz)
  have e1 : ∀ (q : Option Addr) d, (Op.equalIn (d + 1) t (.pointer none) (.pointer q)).run P w = .ok q.isNone w := fun q d => by cases q <;> simp [Op.equalIn, run_underlying hund]
  have e2 : ∀ (q : Addr) d, (Op.equalIn (d + 1) t (.pointer (some q)) (.pointer none)).run P w = .ok false w := fun q d => by simp [Op.equalIn, run_underlying hund]
  unfold aptrP at h
  split at h
  · have hu : u = .pointer none := hu
    have hv : v = .pointer none := hv
    subst hu; subst hv
    exact fin none none true (e1 none) h
  · have hu : u = .pointer none := hu
    subst hu
    cases hp : isPtr y with
    | false => simp [hp] at h
    | true =>
      rw [hp, cond_true] at h
      obtain ⟨ad, rfl⟩ := isPtr_of hp hv
      exact fin none (some ad) false (e1 (some ad)) h
  · have hv : v = .pointer none := hv
    subst hv
    cases hp : isPtr x with
    | false => simp [hp] at h
    | true =>
      rw [hp, cond_true] at h
      obtain ⟨ad, rfl⟩ := isPtr_of hp hu
      exact fin (some ad) none false (e2 ad) h
  · simp at h
theorem aptrF_ok {op : BinOp} {t : TypeId} {p1 p2 : Array TypeId} {p3 : Bool} (hund : P.underlying t = some (.func p1 p2 p3)) {x y : AV} {u v : Value} (hu : VR φ H w x u) (hv : VR φ H w y v) {cs : List Bool} {r : AV} (h : aptrF op x y = some (cs, r)) (X Y : Operand) :
    ∃ z, ((do eqGuard op t X Y u v; binOp op t u v) : Sem Value).run P w = .ok z w ∧ VR φ H w r z := by
  unfold aptrF at h
  split at h
  · have hu : u = .nilFunc := hu
    have hv : v = .nilFunc := hv
    subst hu; subst hv
    have he : ∀ d, (Op.equalIn (d + 1) t .nilFunc .nilFunc).run P w = .ok true w := fun d => by simp [Op.equalIn, run_underlying hund]
    obtain ⟨z, hz, hr⟩ := aeqNil_ok (P := P) (φ := φ) (H := H) (w := w) h (t := t) (he 9999) (by rintro op' (rfl | rfl) <;> simp [binOp])
    refine ⟨z, ?_, hr⟩
    cases op <;> first | (simp [aeqNil] at h; done) | (simp only [eqGuard]; simpa using hz)
  · have hu : u = .nilFunc := hu
    obtain ⟨us, rfl, _⟩ := hv
    subst hu
    have he : ∀ (f : Fn) d, (Op.equalIn (d + 1) t .nilFunc (.func f #[] us.toArray)).run P w = .ok false w := fun f d => by simp [Op.equalIn, run_underlying hund]
    obtain ⟨z, hz, hr⟩ := aeqNil_ok (P := P) (φ := φ) (H := H) (w := w) h (t := t) (he _ 9999) (by rintro op' (rfl | rfl) <;> simp [binOp])
    refine ⟨z, ?_, hr⟩
    cases op <;> first | (simp [aeqNil] at h; done) | (simp only [eqGuard]; simpa using hz)
  · have hv : v = .nilFunc := hv
    obtain ⟨us, rfl, _⟩ := hu
    subst hv
    have he : ∀ (f : Fn) d, (Op.equalIn (d + 1) t (.func f #[] us.toArray) .nilFunc).run P w = .ok false w := fun f d => by simp [Op.equalIn, run_underlying hund]
    obtain ⟨z, hz, hr⟩ := aeqNil_ok (P := P) (φ := φ) (H := H) (w := w) h (t := t) (he _ 9999) (by rintro op' (rfl | rfl) <;> simp [binOp])
    refine ⟨z, ?_, hr⟩
    cases op <;> first | (simp [aeqNil] at h; done) | (simp only [eqGuard]; simpa using hz)
  · simp at h
theorem aint_ok {op : BinOp} {t : TypeId} {l l' : Bool} {k k' : IntKind} {a b : Int} {cs : List Bool} {r : AV} (h : aint real op l k a l' k' b = some (cs, r)) (hc : ∀ c ∈ cs, c = true) (X Y : Operand) :
    ∃ z, ((do eqGuard op t X Y (.int k a) (.int k' b); binOp op t (.int k a) (.int k' b)) : Sem Value).run P w = .ok z w ∧ VR φ H w r z := by
  unfold aint at h
  cases hs : isSh op with
  | true =>
    rw [hs, cond_true] at h
    unfold ash at h
    split at h <;> simp at h <;> obtain ⟨rfl, rfl⟩ := h
    · have hb : ¬ b < 0 := by have := hc _ List.mem_cons_self; simpa [real] using this
      exact ⟨.int k (k.wrap (a * 2 ^ (min b.toNat k.bits))), by simp [eqGuard_shl, binOp, Op.shift, hb], by simp [VR, real]⟩
    · have hb : ¬ b < 0 := by have := hc _ List.mem_cons_self; simpa [real] using this
      exact ⟨.int k (a.fdiv (2 ^ (min b.toNat k.bits))), by simp [eqGuard_shr, binOp, Op.shift, hb], by simp [VR, real]⟩
  | false =>
    rw [hs, cond_false] at h
    cases hk : sameK k k' with
    | false => simp [hk] at h
    | true =>
      obtain rfl := sameK_eq hk
      rw [hk, cond_true] at h
      obtain ⟨z, hz, hvr⟩ := aarith_ok (P := P) (φ := φ) (H := H) (w := w) h hc t
      exact ⟨z, by rw [eqGuard_at_int]; simpa using hz, hvr⟩
theorem aptr_ok (hT : TabOk P T) {op : BinOp} {t : TypeId} {x y : AV} {u v : Value} (hu : VR φ H w x u) (hv : VR φ H w y v) {cs : List Bool} {r : AV} (h : aptr T op t x y = some (cs, r)) (X Y : Operand) :
    ∃ z, ((do eqGuard op t X Y u v; binOp op t u v) : Sem Value).run P w = .ok z w ∧ VR φ H w r z := by
  unfold aptr at h
  split at h
  · rename_i e _ _ _ _ hi
    exact aptrP_ok (hT.und hi) hu hv h X Y
  · rename_i p1 p2 p3 _ _ _ _ hi
    exact aptrF_ok (hT.und hi) hu hv h X Y
  · simp at h
theorem astr_ok {op : BinOp} {t : TypeId} {a b : ByteArray} {cs : List Bool} {r : AV} (h : astr real op a b = some (cs, r)) (hc : ∀ c ∈ cs, c = true) (X Y : Operand) :
    ∃ z, ((do eqGuard op t X Y (.string a) (.string b); binOp op t (.string a) (.string b)) : Sem Value).run P w = .ok z w ∧ VR φ H w r z := by
  unfold astr at h
  split at h <;> simp at h <;> obtain ⟨rfl, rfl⟩ := h
  · have hb := Nat.le_of_ble_eq_true (hc _ List.mem_cons_self)
    have hb : a.size + b.size ≤ 9223372036854775807 := hb
    have hb' : ¬ (IntKind.i64.max < ((a.size : Int) + (b.size : Int))) := by
      have : IntKind.i64.max = 9223372036854775807 := by decide
      omega
    exact ⟨.string (a ++ b), by rw [eqGuard_add]; simp only [binOp, Op.stringOp, Sem.run_bind, Sem.run_pure, Result.andThen_ok]; rw [if_neg (by push_cast; exact hb')]; rfl, by simp [VR, real]⟩
  · exact ⟨.bool (a.toList == b.toList), by simp [eqGuard, binOp, Op.stringOp], by simp [VR, real]⟩
  · exact ⟨.bool (!(a.toList == b.toList)), by simp [eqGuard, binOp, Op.stringOp], by simp [VR, real]⟩
theorem aflt_ok {op : BinOp} {t : TypeId} {a b : Nat} {cs : List Bool} {r : AV} (h : aflt real op a b = some (cs, r)) (X Y : Operand) :
    ∃ z, ((do eqGuard op t X Y (.float .f64 a) (.float .f64 b); binOp op t (.float .f64 a) (.float .f64 b)) : Sem Value).run P w = .ok z w ∧ VR φ H w r z := by
  unfold aflt at h
  split at h <;> simp at h <;> obtain ⟨rfl, rfl⟩ := h
  · exact ⟨.bool (fcmpOf .eql .f64 a b), by simp [eqGuard, binOp, Op.floatCmp, fcmpOf], by simp [VR, real]⟩
  · exact ⟨.bool (fcmpOf .neq .f64 a b), by simp [eqGuard, binOp, Op.floatCmp, fcmpOf], by simp [VR, real]⟩
  · exact ⟨.bool (fcmpOf .lss .f64 a b), by simp [eqGuard, binOp, Op.floatCmp, fcmpOf], by simp [VR, real]⟩
  · exact ⟨.bool (fcmpOf .leq .f64 a b), by simp [eqGuard, binOp, Op.floatCmp, fcmpOf], by simp [VR, real]⟩
  · exact ⟨.bool (fcmpOf .gtr .f64 a b), by simp [eqGuard, binOp, Op.floatCmp, fcmpOf], by simp [VR, real]⟩
  · exact ⟨.bool (fcmpOf .geq .f64 a b), by simp [eqGuard, binOp, Op.floatCmp, fcmpOf], by simp [VR, real]⟩
theorem abool_ok (hT : TabOk P T) {op : BinOp} {t : TypeId} {a b : Bool} {cs : List Bool} {r : AV} (h : abool real T op t a b = some (cs, r)) (X Y : Operand) :
    ∃ z, ((do eqGuard op t X Y (.bool a) (.bool b); binOp op t (.bool a) (.bool b)) : Sem Value).run P w = .ok z w ∧ VR φ H w r z := by
  unfold abool at h
  cases hi : tget T t with
  | none => simp [hi] at h
  | some i =>
    simp only [hi] at h
    have hund := hT.und hi
    cases hd : i.desc <;> rw [hd] at h <;> try (simp at h; done)
    rw [hd] at hund
    have he := run_equalIn_bool (P := P) w 9999 t a b hund
    cases op <;> simp at h <;> obtain ⟨rfl, rfl⟩ := h
    · exact ⟨.bool (a == b), by simp [eqGuard, binOp, Op.equal, Op.maxDepth, he], by simp [VR, real]⟩
    · exact ⟨.bool (!(a == b)), by simp [eqGuard, binOp, Op.equal, Op.maxDepth, he], by simp [VR, real]⟩
theorem aagg_ok (hT : TabOk P T) {op : BinOp} {t : TypeId} {xs ys : List AV} {u v : Value} (hu : VR φ H w (.agg xs) u) (hv : VR φ H w (.agg ys) v) {cs : List Bool} {r : AV} (h : aagg real T op t xs ys = some (cs, r)) (X Y : Operand) :
    ∃ z, ((do eqGuard op t X Y u v; binOp op t u v) : Sem Value).run P w = .ok z w ∧ VR φ H w r z := by
  unfold aagg at h
  split at h
  · cases ha : aeq real T 12 t (.agg xs) (.agg ys) with
    | none => simp [ha] at h
    | some b =>
      simp [ha] at h
      obtain ⟨rfl, rfl⟩ := h
      have e := aeq_ok hT 12 t _ _ u v b hu hv ha 10000 (by omega)
      obtain ⟨us, rfl, _, _⟩ := hu
      obtain ⟨vs, rfl, _, _⟩ := hv
      obtain ⟨i, hi, hq⟩ := aeq_agg ha
      obtain ⟨_, f, _, _, _, h3⟩ := hT t i hi
      have hg := run_eqGuard_agg (P := P) w .eql t X Y us.toArray vs.toArray (h3 hq).1
      refine ⟨.bool b, ?_, rfl⟩
      rw [Sem.run_bind, hg]
      simp only [Result.andThen_ok, run_eql_struct, e]
  · cases ha : aeq real T 12 t (.agg xs) (.agg ys) with
    | none => simp [ha] at h
    | some b =>
      simp [ha] at h
      obtain ⟨rfl, rfl⟩ := h
      have e := aeq_ok hT 12 t _ _ u v b hu hv ha 10000 (by omega)
      obtain ⟨us, rfl, _, _⟩ := hu
      obtain ⟨vs, rfl, _, _⟩ := hv
      obtain ⟨i, hi, hq⟩ := aeq_agg ha
      obtain ⟨_, f, _, _, _, h3⟩ := hT t i hi
      have hg := run_eqGuard_agg (P := P) w .neq t X Y us.toArray vs.toArray (h3 hq).1
      refine ⟨.bool (!b), ?_, rfl⟩
      rw [Sem.run_bind, hg]
      simp only [Result.andThen_ok, run_neq_struct, e]
  · simp at h
theorem avalBin_ok (hT : TabOk P T) {op : BinOp} {t : TypeId} {x : Value} {y : AV} {v : Value} (hv : VR φ H w y v) {cs : List Bool} {r : AV} (h : avalBin real T op t x y = some (cs, r)) (hc : ∀ c ∈ cs, c = true) (X Y : Operand) :
    ∃ z, ((do eqGuard op t X Y x v; binOp op t x v) : Sem Value).run P w = .ok z w ∧ VR φ H w r z := by
  cases x
  case string a =>
    simp only [avalBin] at h
    cases y <;> try (simp at h; done)
    rename_i c
    cases c <;> try (simp at h; done)
    have hv : v = .string _ := hv
    subst hv
    exact astr_ok h hc X Y
  case float k a =>
    cases k
    · simp [avalBin] at h
    simp only [avalBin] at h
    cases y <;> try (simp at h; done)
    rename_i c
    cases c <;> try (simp at h; done)
    rename_i k b
    cases k <;> try (simp at h; done)
    have hv : v = .float .f64 b := hv
    subst hv
    exact aflt_ok h X Y
  all_goals exact aptr_ok hT (show VR φ H w (.val _) _ from rfl) hv h X Y
theorem abin_ok (hT : TabOk P T) {op : BinOp} {t : TypeId} {x y : AV} {u v : Value} (hu : VR φ H w x u) (hv : VR φ H w y v) {cs : List Bool} {r : AV} (h : abin real T op t x y = some (cs, r)) (hc : ∀ c ∈ cs, c = true) (X Y : Operand) :
    ∃ z, ((do eqGuard op t X Y u v; binOp op t u v) : Sem Value).run P w = .ok z w ∧ VR φ H w r z := by
  cases x
  case int l k a =>
    simp only [abin] at h
    cases y <;> try (simp at h; done)
    rename_i l' k' b
    have hu : u = .int k a := hu
    have hv : v = .int k' b := hv
    subst hu; subst hv
    exact aint_ok h hc X Y
  case bool a =>
    simp only [abin] at h
    cases y <;> try (simp at h; done)
    rename_i b
    have hu : u = .bool a := hu
    have hv : v = .bool b := hv
    subst hu; subst hv
    exact abool_ok hT h X Y
  case agg xs =>
    simp only [abin] at h
    cases y <;> try (simp at h; done)
    rename_i ys
    exact aagg_ok hT hu hv h X Y
  case val x =>
    have hu : u = x := hu
    subst hu
    exact avalBin_ok hT hv h hc X Y
  all_goals exact aptr_ok hT hu hv h X Y
end
end Go.Proofs.Ytckkcgkgfkgfdaa.AM
