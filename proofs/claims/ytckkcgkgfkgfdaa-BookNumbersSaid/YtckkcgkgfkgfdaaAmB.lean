/- The operations of Go code over an abstract memory. Plain words; no condition. -/
import Derived.Test.YtckkcgkgfkgfdaaAmA
namespace Go.Proofs.Ytckkcgkgfkgfdaa.AM
/-- Numbers of the proof's own, told apart at one blow. -/
def eqb (a b : Nat) : Bool := decide (a = b)
def leb (a b : Nat) : Bool := decide (a ≤ b)
def ltb (a b : Nat) : Bool := decide (a < b)
theorem eqb_eq {a b : Nat} (h : eqb a b = true) : a = b := of_decide_eq_true h
theorem leb_le {a b : Nat} (h : leb a b = true) : a ≤ b := of_decide_eq_true h
theorem ltb_lt {a b : Nat} (h : ltb a b = true) : a < b := of_decide_eq_true h
@[simp] theorem eqb_iff (a b : Nat) : eqb a b = true ↔ a = b := decide_eq_true_iff
@[simp] theorem eqb_not (a b : Nat) : eqb a b = false ↔ a ≠ b := decide_eq_false_iff_not
@[simp] theorem eqb_self (a : Nat) : eqb a a = true := (eqb_iff a a).2 rfl
/-- The words over numbers, lists and strings that an evaluation leaves shut. -/
structure Num : Type 1 where
  add : IntKind → Int → Int → Int
  sub : IntKind → Int → Int → Int
  mul : IntKind → Int → Int → Int
  quo : IntKind → Int → Int → Int
  rem : IntKind → Int → Int → Int
  bits : BinOp → IntKind → Int → Int → Int
  shl : IntKind → Int → Int → Int
  shr : IntKind → Int → Int → Int
  wrap : IntKind → Int → Int
  max : Int → Int → Int
  min : Int → Int → Int
  lt : Int → Int → Bool
  le : Int → Int → Bool
  eq : Int → Int → Bool
  not : Bool → Bool
  beq : Bool → Bool → Bool
  band : Bool → Bool → Bool
  i2n : Int → Nat
  n2i : Nat → Int
  inb : Int → Nat → Bool
  nadd : Nat → Nat → Nat
  nsub : Nat → Nat → Nat
  nle : Nat → Nat → Bool
  nlt : Nat → Nat → Bool
  neq : Nat → Nat → Bool
  len : List AV → Nat
  get : List AV → Nat → AV
  upd : List AV → Nat → AV → List AV
  app : List AV → List AV → List AV
  tak : Nat → List AV → List AV
  drp : Nat → List AV → List AV
  spl : List AV → Nat → List AV → List AV
  rep : Nat → AV → List AV
  nth : (α : Type) → α → List α → Nat → α
  mlen : (α : Type) → List α → Nat
  cut : (α : Type) → List α → Nat → Nat → List α
  emap : (α : Type) → (α → AV) → List α → List AV
  slen : ByteArray → Nat
  sidx : ByteArray → Nat → Int
  scut : ByteArray → Nat → Nat → ByteArray
  scat : ByteArray → ByteArray → ByteArray
  seq : ByteArray → ByteArray → Bool
  fcmp : BinOp → FloatKind → Nat → Nat → Bool
  i2f : FloatKind → Int → Nat
universe u
def overw {α : Type u} (l : List α) (i : Nat) (m : List α) : List α := l.take i ++ m ++ l.drop (i + m.length)
def bitsOf (op : BinOp) (k : IntKind) (x y : Int) : Int :=
  let a := BitVec.ofInt k.bits x
  let b := BitVec.ofInt k.bits y
  match op with
  | .and => k.wrap (a &&& b).toNat
  | .or => k.wrap (a ||| b).toNat
  | .xor => k.wrap (a ^^^ b).toNat
  | _ => k.wrap (a &&& ~~~b).toNat
def fcmpOf (op : BinOp) (k : FloatKind) (x y : Nat) : Bool :=
  match op with
  | .eql => k.format.order x y == some .eq
  | .neq => k.format.order x y != some .eq
  | .lss => k.format.order x y == some .lt
  | .leq => k.format.order x y == some .lt || k.format.order x y == some .eq
  | .gtr => k.format.order x y == some .gt
  | _ => k.format.order x y == some .gt || k.format.order x y == some .eq
def real : Num where
  add k a b := k.wrap (a + b)
  sub k a b := k.wrap (a - b)
  mul k a b := k.wrap (a * b)
  quo k a b := k.wrap (a.tdiv b)
  rem _ a b := a.tmod b
  bits := bitsOf
  shl k a b := k.wrap (a * 2 ^ (min b.toNat k.bits))
  shr k a b := a.fdiv (2 ^ (min b.toNat k.bits))
  wrap k a := k.wrap a
  max a b := if b > a then b else a
  min a b := if b < a then b else a
  lt a b := decide (a < b)
  le a b := decide (a ≤ b)
  eq a b := a == b
  not b := !b
  beq a b := a == b
  band a b := a && b
  i2n := Int.toNat
  n2i n := (n : Int)
  inb i n := decide (0 ≤ i) && decide (i < n)
  nadd := Nat.add
  nsub := Nat.sub
  nle := Nat.ble
  nlt := Nat.blt
  neq := eqb
  len := List.length
  get l i := l.getD i (.val undef)
  upd l i v := l.set i v
  app := List.append
  tak := List.take
  drp := List.drop
  spl := overw
  rep := List.replicate
  nth _ d l i := l.getD i d
  mlen _ := List.length
  cut _ l a b := (l.drop a).take (b - a)
  emap _ f l := l.map f
  slen := ByteArray.size
  sidx s i := (s[i]?.getD 0).toNat
  scut := ByteArray.extract
  scat a b := a ++ b
  seq a b := a.toList == b.toList
  fcmp := fcmpOf
  i2f k n := k.nearest n
/-- The numbers to count with: the true ones for what the program wrote itself. -/
def pk (O : Num) : Bool → Num
  | true => real
  | false => O
theorem pk_real (l : Bool) : pk real l = real := by cases l <;> rfl
/-- Types. -/
structure TI where
  desc : TypeDesc
  size : Nat
  bytes : Nat
  zero : Option Value
  eqok : Bool
/-- A table of types, by number. -/
inductive Tab where
  | nil
  | node (l : Tab) (k : Nat) (i : TI) (r : Tab)
def tget : Tab → Nat → Option TI
  | .nil, _ => none
  | .node l k i r, t => match eqb k t with | true => some i | false => match leb k t with | true => tget r t | false => tget l t
def TabOk (P : Program) (T : Tab) : Prop := ∀ t i, tget T t = some i → P.underlying t = some i.desc ∧ ∃ f, P.info? t = some f ∧ (f.size = i.size ∧ f.bytes = i.bytes ∧ f.zero = i.zero) ∧ (∀ z, i.zero = some z → ∀ c ∈ z.cells.toList, c.oneCell' = true) ∧
  (i.eqok = true → P.eqGuardType P.depth t = false ∧ P.stoodInHeld t = false ∧ ∀ fs, i.desc = .struct fs → ∀ g ∈ fs.toList, g.name ≠ "_")
def isRow : TypeDesc → Bool
  | .struct _ => true
  | .array _ _ => true
  | _ => false
/-- Objects of one's own. -/
inductive Ob : Type 1
  | box (e : TypeId) (cells : List AV)
  | row (e : TypeId) (st : Nat) (c : AV)
structure Ent : Type 1 where
  ix : Nat
  bs : Nat
  ob : Ob
def find : List Ent → Nat → Option Ent
  | [], _ => none
  | e :: r, ix => match eqb e.ix ix with | true => some e | false => find r ix
def setOb : List Ent → Nat → Ob → List Ent
  | [], _, _ => []
  | e :: r, ix, o => match eqb e.ix ix with | true => ⟨e.ix, e.bs, o⟩ :: r | false => e :: setOb r ix o
def delOb : List Ent → Nat → List Ent
  | [], _ => []
  | e :: r, ix => match eqb e.ix ix with | true => r | false => e :: delOb r ix
def ofVal : Value → AV
  | .int k n => .int true k n
  | .bool b => .bool b
  | v => .val v
def ofVals : List Value → List AV
  | [] => []
  | v :: r => ofVal v :: ofVals r
def flat : AV → List AV
  | .agg cs => cs
  | .val (.agg a) => ofVals a.toList
  | v => [v]
def ofV : Value → AV
  | .agg a => .agg (ofVals a.toList)
  | v => ofVal v
def lget {α : Type u} : List α → Nat → Option α
  | [], _ => none
  | a :: _, 0 => some a
  | _ :: r, n + 1 => lget r n
def lsub {α : Type u} : List α → Nat → Nat → Option (List α)
  | _, 0, 0 => some []
  | a :: r, 0, n + 1 => match lsub r 0 n with | some x => some (a :: x) | none => none
  | _ :: r, o + 1, n => lsub r o n
  | [], _, _ => none
/-- Cells laid over others. -/
def lput {α : Type u} : List α → Nat → List α → Option (List α)
  | l, 0, [] => some l
  | _ :: r, 0, x :: xs => match lput r 0 xs with | some y => some (x :: y) | none => none
  | a :: r, o + 1, xs => match lput r o xs with | some y => some (a :: y) | none => none
  | [], _, _ => none
def llen {α : Type u} : List α → Nat
  | [] => 0
  | _ :: r => llen r + 1
abbrev R := Option (List Bool × AV)
/-- A sequence's length, element, elements. -/
def seqLen (O : Num) : AV → Option Nat
  | .list _ _ _ l => some (O.len l)
  | .mlist _ _ _ α _ _ l => some (O.mlen α l)
  | _ => none
def seqGet (O : Num) : AV → Nat → Option AV
  | .list _ _ _ l, i => some (O.get l i)
  | .mlist _ _ _ α enc d l, i => some (enc (O.nth α d l i))
  | _, _ => none
def seqList (O : Num) : AV → Option (List AV)
  | .list _ _ _ l => some l
  | .mlist _ _ _ α enc _ l => some (O.emap α enc l)
  | _ => none
/-- Cells as a value of a type. -/
def ofCells (i : TI) (cs : List AV) (off : Nat) : Option AV :=
  bif isRow i.desc then match lsub cs off i.size with | some x => some (.agg x) | none => none else lget cs off
section
variable (O : Num) (T : Tab)
def aload (t : TypeId) (p : AV) (ob : List Ent) : R :=
  match tget T t with
  | none => none
  | some i => match p with
    | .ptr ix bs off => match find ob ix with
      | some ⟨_, bs', .box _ cells⟩ => match ofCells i cells off with | some v => some ([O.neq bs bs'], v) | none => none
      | _ => none
    | .rptr ix bs st j off => match find ob ix with
      | some ⟨_, bs', .row _ st' c⟩ => bif eqb st st' then
          match seqLen O c, seqGet O c j with
          | some n, some el => match ofCells i (flat el) off with | some v => some ([O.neq bs bs', O.nlt j n], v) | none => none
          | _, _ => none
        else none
      | _ => none
    | .hptr el _ off => match ofCells i (flat el) off with | some v => some ([], v) | none => none
    | _ => none
def afield (t : TypeId) (f : Nat) (x : AV) : R :=
  match tget T t with
  | some ⟨.struct fs, _, _, _, _⟩ => match lget fs.toList f with
    | some g => match tget T g.type with
      | some i => match x with
        | .agg cs => match ofCells i cs g.offset with | some v => some ([], v) | none => none
        | _ => none
      | none => none
    | none => none
  | _ => none
def afieldAddr (t : TypeId) (f : Nat) (p : AV) : R :=
  match tget T t with
  | some ⟨.struct fs, _, _, _, _⟩ => match lget fs.toList f with
    | some g => match tget T g.type with
      | some gi => bif eqb gi.size 0 then none else match p with
        | .ptr ix bs off => some ([], .ptr ix bs (off + g.offset))
        | .rptr ix bs st i off => some ([], .rptr ix bs st i (off + g.offset))
        | .hptr el st off => some ([], .hptr el st (off + g.offset))
        | _ => none
      | none => none
    | none => none
  | _ => none
def okst (st s : Nat) : Bool := bif eqb st 0 then false else eqb st s
def aindexAddr (t : TypeId) (x i : AV) : R :=
  match tget T t, i with
  | some ⟨.slice e, _, _, _, _⟩, .int _ _ j => match tget T e with
    | some ei => match x with
      | .own ix bs st a n => bif okst st ei.size then some ([O.inb j n], .rptr ix bs st (O.nadd a (O.i2n j)) 0) else none
      | .list st _ _ l => bif okst st ei.size then some ([O.inb j (O.len l)], .hptr (O.get l (O.i2n j)) st 0) else none
      | .mlist st _ _ α enc d l => bif okst st ei.size then some ([O.inb j (O.mlen α l)], .hptr (enc (O.nth α d l (O.i2n j))) st 0) else none
      | _ => none
    | none => none
  | _, _ => none
def aarith (op : BinOp) (k : IntKind) (lit : Bool) (a b : Int) : R :=
  match op with
  | .add => some ([], .int lit k ((pk O lit).add k a b))
  | .sub => some ([], .int lit k ((pk O lit).sub k a b))
  | .mul => some ([], .int lit k ((pk O lit).mul k a b))
  | .quo => some ([O.not (O.eq b 0)], .int lit k ((pk O lit).quo k a b))
  | .rem => some ([O.not (O.eq b 0)], .int lit k ((pk O lit).rem k a b))
  | .and => some ([], .int false k (O.bits .and k a b))
  | .or => some ([], .int false k (O.bits .or k a b))
  | .xor => some ([], .int false k (O.bits .xor k a b))
  | .andNot => some ([], .int false k (O.bits .andNot k a b))
  | .eql => some ([], .bool ((pk O lit).eq a b))
  | .neq => some ([], .bool ((pk O lit).not ((pk O lit).eq a b)))
  | .lss => some ([], .bool ((pk O lit).lt a b))
  | .leq => some ([], .bool ((pk O lit).le a b))
  | .gtr => some ([], .bool ((pk O lit).lt b a))
  | .geq => some ([], .bool ((pk O lit).le b a))
  | _ => none
def isPtr : AV → Bool
  | .ptr .. => true
  | .rptr .. => true
  | .hptr .. => true
  | _ => false
def aeqNil (op : BinOp) (b : Bool) : R :=
  match op with
  | .eql => some ([], .bool b)
  | .neq => some ([], .bool (bif b then false else true))
  | _ => none
def sameK : IntKind → IntKind → Bool
  | .i8, .i8 => true | .i16, .i16 => true | .i32, .i32 => true | .i64, .i64 => true
  | .u8, .u8 => true | .u16, .u16 => true | .u32, .u32 => true | .u64, .u64 => true
  | _, _ => false
/-- Are two values of a type the same? -/
def aeqS (d : TypeDesc) (x y : AV) : Option Bool :=
  match d with
  | .int _ => match x with
    | .int _ k a => match y with | .int _ k' b => bif sameK k k' then some (O.eq a b) else none | _ => none
    | _ => none
  | .bool => match x with
    | .bool a => match y with | .bool b => some (O.beq a b) | _ => none
    | _ => none
  | .string => match x with
    | .val u => match u with
      | .string a => match y with
        | .val u => match u with | .string b => some (O.seq a b) | _ => none
        | _ => none
      | _ => none
    | _ => none
  | .float _ => match x with
    | .val u => match u with
      | .float k a => match k with
        | .f64 => match y with
          | .val u => match u with
            | .float k b => match k with | .f64 => some (O.fcmp .eql .f64 a b) | _ => none
            | _ => none
          | _ => none
        | _ => none
      | _ => none
    | _ => none
  | _ => none
def aeq : Nat → TypeId → AV → AV → Option Bool
  | 0, _, _, _ => none
  | d + 1, t, x, y => match tget T t with
    | none => none
    | some i => match x with
      | .agg xs => match y with
        | .agg ys => match i.desc with
          | .struct fs => bif i.eqok then eqs d fs.toList xs ys else none
          | _ => none
        | _ => none
      | x => aeqS O i.desc x y
where
  eqs : Nat → List Field → List AV → List AV → Option Bool
    | _, [], _, _ => some true
    | d, f :: fs, xs, ys => match tget T f.type with
      | none => none
      | some i => match ofCells i xs f.offset, ofCells i ys f.offset with
        | some x, some y => match aeq d f.type x y, eqs d fs xs ys with
          | some a, some b => some (O.band a b)
          | _, _ => none
        | _, _ => none
def aptrP (op : BinOp) (x y : AV) : R :=
  match x, y with
  | .val (.pointer none), .val (.pointer none) => aeqNil op true
  | .val (.pointer none), y => bif isPtr y then aeqNil op false else none
  | x, .val (.pointer none) => bif isPtr x then aeqNil op false else none
  | _, _ => none
def aptrF (op : BinOp) (x y : AV) : R :=
  match x, y with
  | .val .nilFunc, .val .nilFunc => aeqNil op true
  | .val .nilFunc, .fn _ _ => aeqNil op false
  | .fn _ _, .val .nilFunc => aeqNil op false
  | _, _ => none
def aptr (op : BinOp) (t : TypeId) (x y : AV) : R :=
  match tget T t with
  | some ⟨.pointer _, _, _, _, _⟩ => aptrP op x y
  | some ⟨.func _ _ _, _, _, _, _⟩ => aptrF op x y
  | _ => none
def isSh : BinOp → Bool
  | .shl => true
  | .shr => true
  | _ => false
def ash (op : BinOp) (k : IntKind) (a b : Int) : R :=
  match op with
  | .shl => some ([O.le 0 b], .int false k (O.shl k a b))
  | .shr => some ([O.le 0 b], .int false k (O.shr k a b))
  | _ => none
def aint (op : BinOp) (l : Bool) (k : IntKind) (a : Int) (l' : Bool) (k' : IntKind) (b : Int) : R :=
  bif isSh op then ash O op k a b else bif sameK k k' then aarith O op k (bif l then l' else false) a b else none
def abool (op : BinOp) (t : TypeId) (a b : Bool) : R :=
  match tget T t with
  | none => none
  | some i => match i.desc with
    | .bool => match op with
      | .eql => some ([], .bool (O.beq a b))
      | .neq => some ([], .bool (O.not (O.beq a b)))
      | _ => none
    | _ => none
def astr (op : BinOp) (a b : ByteArray) : R :=
  match op with
  | .add => some ([O.nle (O.nadd (O.slen a) (O.slen b)) 9223372036854775807], .val (.string (O.scat a b)))
  | .eql => some ([], .bool (O.seq a b))
  | .neq => some ([], .bool (O.not (O.seq a b)))
  | _ => none
def aflt (op : BinOp) (a b : Nat) : R :=
  match op with
  | .eql => some ([], .bool (O.fcmp .eql .f64 a b))
  | .neq => some ([], .bool (O.fcmp .neq .f64 a b))
  | .lss => some ([], .bool (O.fcmp .lss .f64 a b))
  | .leq => some ([], .bool (O.fcmp .leq .f64 a b))
  | .gtr => some ([], .bool (O.fcmp .gtr .f64 a b))
  | .geq => some ([], .bool (O.fcmp .geq .f64 a b))
  | _ => none
def aagg (op : BinOp) (t : TypeId) (xs ys : List AV) : R :=
  match op with
  | .eql => match aeq O T 12 t (.agg xs) (.agg ys) with | some b => some ([], .bool b) | none => none
  | .neq => match aeq O T 12 t (.agg xs) (.agg ys) with | some b => some ([], .bool (O.not b)) | none => none
  | _ => none
def avalBin (op : BinOp) (t : TypeId) (v : Value) (y : AV) : R :=
  match v with
  | .string a => match y with
    | .val u => match u with | .string b => astr O op a b | _ => none
    | _ => none
  | .float k a => match k with
    | .f64 => match y with
      | .val u => match u with
        | .float k b => match k with | .f64 => aflt O op a b | _ => none
        | _ => none
      | _ => none
    | _ => none
  | v => aptr T op t (.val v) y
def abin (op : BinOp) (t : TypeId) (x y : AV) : R :=
  match x with
  | .int l k a => match y with | .int l' k' b => aint O op l k a l' k' b | _ => none
  | .bool a => match y with | .bool b => abool O T op t a b | _ => none
  | .agg xs => match y with | .agg ys => aagg O T op t xs ys | _ => none
  | .val v => avalBin O T op t v y
  | x => aptr T op t x y
def aun (op : UnOp) (x : AV) : R :=
  match op, x with
  | .not, .bool b => some ([], .bool (O.not b))
  | .neg, .int l k n => some ([], .int l k ((pk O l).sub k 0 n))
  | _, _ => none
def aconv (src d : TypeId) (x : AV) : R :=
  match tget T src, tget T d, x with
  | some _, some ⟨.int k, _, _, _, _⟩, .int l _ n => some ([], .int l k ((pk O l).wrap k n))
  | some _, some ⟨.float k, _, _, _, _⟩, .int _ _ n => some ([], .val (.float k (O.i2f k n)))
  | some _, some ⟨.string, _, _, _, _⟩, .val (.string s) => some ([], .val (.string s))
  | _, _, _ => none
def alen (t : TypeId) (x : AV) : R :=
  match tget T t, x with
  | some ⟨.slice _, _, _, _, _⟩, .own _ _ _ _ n => some ([], .int false .i64 (O.n2i n))
  | some ⟨.slice _, _, _, _, _⟩, .list _ _ _ l => some ([], .int false .i64 (O.n2i (O.len l)))
  | some ⟨.slice _, _, _, _, _⟩, .mlist _ _ _ α _ _ l => some ([], .int false .i64 (O.n2i (O.mlen α l)))
  | some ⟨.slice _, _, _, _, _⟩, .val (.slice none 0 0) => some ([], .int true .i64 0)
  | some ⟨.string, _, _, _, _⟩, .val (.string s) => some ([], .int false .i64 (O.n2i (O.slen s)))
  | _, _ => none
/-- A cut: of what, from where, to where, with what room. -/
def cutC (lo hi mx : Option Int) (n : Nat) : Option (List Bool) :=
  match lo, hi, mx with
  | none, none, none => some []
  | some l, none, none => some [O.le 0 l, O.le l (O.n2i n)]
  | none, some h, none => some [O.le 0 h, O.le h (O.n2i n)]
  | some l, some h, none => some [O.le 0 l, O.le l h, O.le h (O.n2i n)]
  | none, some h, some m => some [O.le 0 h, O.le h m, O.le m (O.n2i n)]
  | some l, some h, some m => some [O.le 0 l, O.le l h, O.le h m, O.le m (O.n2i n)]
  | _, _, _ => none
def cutF (full : Bool) (hi mx : Option Int) : Bool × List Bool :=
  match hi, mx with
  | none, _ => (full, [])
  | some _, none => (false, [])
  | some h, some m => (true, [O.eq h m])
def asliceN (st : Nat) (x : AV) (h m : Int) : R :=
  match x with
  | .own _ _ st' _ _ => bif okst st' st then some ([O.eq h 0, O.eq m 0], .list st' true true []) else none
  | .list st' gd _ _ => bif okst st' st then some ([O.eq h 0, O.eq m 0], .list st' gd true []) else none
  | .mlist st' gd _ _ _ _ _ => bif okst st' st then some ([O.eq h 0, O.eq m 0], .list st' gd true []) else none
  | .val (.slice none 0 0) => some ([O.eq h 0, O.eq m 0], .val (.slice none 0 0))
  | _ => none
def isNoneSS : Option Int → Option Int → Option Int → Option (Int × Int)
  | none, some h, some m => some (h, m)
  | _, _, _ => none
def aslice (t : TypeId) (x : AV) (lo hi mx : Option Int) : R :=
  match tget T t with
  | some ⟨.slice e, _, _, _, _⟩ => match tget T e with
    | some ei => match isNoneSS lo hi mx with
     | some (h, m) => asliceN O ei.size x h m
     | none => match x with
      | .own ix bs st a n => bif okst st ei.size then match cutC O lo hi mx n with
          | none => none
          | some cs => match lo, hi with
            | none, none => some (cs, .own ix bs st a n)
            | some l, none => some (cs, .own ix bs st (O.nadd a (O.i2n l)) (O.nsub n (O.i2n l)))
            | none, some h => some (cs, .own ix bs st a (O.i2n h))
            | some l, some h => some (cs, .own ix bs st (O.nadd a (O.i2n l)) (O.nsub (O.i2n h) (O.i2n l)))
        else none
      | .list st gd full l => bif okst st ei.size then match cutC O lo hi mx (O.len l), cutF O full hi mx with
          | none, _ => none
          | some cs, (f, ds) => match lo, hi with
            | none, none => some (cs, .list st gd full l)
            | some a, none => some (cs, .list st gd full (O.drp (O.i2n a) l))
            | none, some h => some (cs ++ ds, .list st gd f (O.tak (O.i2n h) l))
            | some a, some h => some (cs ++ ds, .list st gd f (O.tak (O.nsub (O.i2n h) (O.i2n a)) (O.drp (O.i2n a) l)))
        else none
      | .mlist st gd full α enc d l => bif okst st ei.size then match cutC O lo hi mx (O.mlen α l), cutF O full hi mx with
          | none, _ => none
          | some cs, (f, ds) => match lo, hi with
            | none, none => some (cs, .mlist st gd full α enc d l)
            | some a, none => some (cs, .mlist st gd full α enc d (O.cut α l (O.i2n a) (O.mlen α l)))
            | none, some h => some (cs ++ ds, .mlist st gd f α enc d (O.cut α l 0 (O.i2n h)))
            | some a, some h => some (cs ++ ds, .mlist st gd f α enc d (O.cut α l (O.i2n a) (O.i2n h)))
        else none
      | _ => none
    | none => none
  | some ⟨.string, _, _, _, _⟩ => match x, mx with
    | .val (.string s), none => match cutC O lo hi none (O.slen s) with
      | none => none
      | some cs => match lo, hi with
        | none, none => some (cs, .val (.string (O.scut s 0 (O.slen s))))
        | some a, none => some (cs, .val (.string (O.scut s (O.i2n a) (O.slen s))))
        | none, some h => some (cs, .val (.string (O.scut s 0 (O.i2n h))))
        | some a, some h => some (cs, .val (.string (O.scut s (O.i2n a) (O.i2n h))))
    | _, _ => none
  | _ => none
def aindex (t : TypeId) (x i : AV) : R :=
  match tget T t, x, i with
  | some ⟨.string, _, _, _, _⟩, .val (.string s), .int _ _ j => some ([O.inb j (O.slen s)], .int false .u8 (O.sidx s (O.i2n j)))
  | _, _, _ => none
/-- Parts laid into a struct's cells. -/
def aparts (fs : List Field) : List AV → List (Nat × AV) → Option (List AV)
  | cs, [] => some cs
  | cs, (f, v) :: r => match lget fs f with
    | some g => match tget T g.type with
      | some i => bif eqb (llen (flat v)) i.size then match lput cs g.offset (flat v) with | some cs' => aparts fs cs' r | none => none else none
      | none => none
    | none => none
def allT : List Field → Bool
  | [] => true
  | f :: r => match tget T f.type with | some _ => allT r | none => false
def abuild (t : TypeId) (parts : List (Nat × AV)) : R :=
  match tget T t with
  | some ⟨.struct fs, _, _, some (.agg z), _⟩ => bif allT T fs.toList then match aparts T fs.toList (ofVals z.toList) parts with | some cs => some ([], .agg cs) | none => none else none
  | _ => none
def amm (mx : Bool) : List AV → R
  | [.int l k a, .int l' k' b] => bif sameK k k' then some ([], .int (bif l then l' else false) k (bif mx then (pk O (bif l then l' else false)).max a b else (pk O (bif l then l' else false)).min a b)) else none
  | _ => none
end
/-- An operation's operands, in order. -/
def opts : Option Operand → List Operand
  | none => []
  | some x => [x]
def snds : List (Nat × Operand) → List Operand
  | [] => []
  | (_, x) :: r => x :: snds r
def opds : Op → List Operand
  | .move x => [x]
  | .assign x => [x]
  | .box _ x => [x]
  | .load _ x => [x]
  | .nilCheck x => [x]
  | .unOp _ _ x => [x]
  | .convert _ _ x => [x]
  | .fieldAddr _ x _ => [x]
  | .field _ x _ => [x]
  | .extract x _ => [x]
  | .pick c a b => [c, a, b]
  | .build _ ps => snds ps.toList
  | .buildSlice _ _ ps => snds ps.toList
  | .store _ a v => [a, v]
  | .binOp _ _ a v _ => [a, v]
  | .makeSlice _ a v => [a, v]
  | .indexAddr _ a v => [a, v]
  | .index _ a v => [a, v]
  | .makeFunc _ first captured => first.toList ++ captured.toList
  | .slice _ x l h m => x :: (opts l ++ (opts h ++ opts m))
  | .call ⟨.value f, args, _⟩ => f :: args.toList
  | .call ⟨.builtin _, args, _⟩ => args.toList
  | _ => []
def notTup : AV → Bool
  | .tup _ => false
  | .val (.tuple _) => false
  | .val (.agg _) => false
  | _ => true
def allNT : List AV → Bool
  | [] => true
  | v :: r => bif notTup v then allNT r else false
def zipP : List (Nat × Operand) → List AV → List (Nat × AV)
  | (i, _) :: r, v :: vs => (i, v) :: zipP r vs
  | _, _ => []
/-- An operation that turns nothing: its value, of its operands'. -/
def aq (O : Num) (T : Tab) (op : Op) (xs : List AV) (ob : List Ent) : R :=
  match op, xs with
  | .move _, [x] => some ([], x)
  | .assign _, [x] => some ([], x)
  | .pick _ _ _, [.bool c, a, b] => some ([], bif c then a else b)
  | .load t _, [p] => aload O T t p ob
  | .nilCheck _, [p] => bif isPtr p then some ([], p) else none
  | .binOp op t _ _ _, [a, b] => abin O T op t a b
  | .unOp op _ _, [a] => aun O op a
  | .convert s d _, [a] => aconv O T s d a
  | .field t _ f, [x] => afield T t f x
  | .fieldAddr t _ f, [x] => afieldAddr T t f x
  | .indexAddr t _ _, [x, i] => aindexAddr O T t x i
  | .index t _ _, [x, i] => aindex O T t x i
  | .extract _ i, [.tup vs] => match lget vs i with | some v => some ([], v) | none => none
  | .slice t _ none none none, [x] => aslice O T t x none none none
  | .slice t _ (some _) none none, [x, .int _ _ l] => aslice O T t x (some l) none none
  | .slice t _ none (some _) none, [x, .int _ _ h] => aslice O T t x none (some h) none
  | .slice t _ (some _) (some _) none, [x, .int _ _ l, .int _ _ h] => aslice O T t x (some l) (some h) none
  | .slice t _ none (some _) (some _), [x, .int _ _ h, .int _ _ m] => aslice O T t x none (some h) (some m)
  | .slice t _ (some _) (some _) (some _), [x, .int _ _ l, .int _ _ h, .int _ _ m] => aslice O T t x (some l) (some h) (some m)
  | .build t ps, vs => bif allNT vs then abuild T t (zipP ps.toList vs) else none
  | .makeFunc fn first _, vs => bif eqb first.size 0 then some ([], .fn fn vs) else none
  | .call ⟨.builtin .len, _, ts⟩, [x] => match ts.toList with | [t] => alen O T t x | _ => none
  | .call ⟨.builtin .max, _, _⟩, vs => amm O true vs
  | .call ⟨.builtin .min, _, _⟩, vs => amm O false vs
  | _, _ => none
end Go.Proofs.Ytckkcgkgfkgfdaa.AM
