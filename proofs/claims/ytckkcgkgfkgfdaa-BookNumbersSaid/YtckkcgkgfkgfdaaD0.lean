/- Values of this program as data, and how they lie in the memory. Plain words. -/
import Derived.Test.YtckkcgkgfkgfdaaAmU
import Derived.Test.YtckkcgkgfkgfdaaAmW
set_option linter.unusedVariables false
namespace Go.Proofs.Ytckkcgkgfkgfdaa.AM
open Ytckkcgkgfkgfdaa
structure Nod where
  par : Int
  cap : Int
structure Sym where
  price : Int
  qty : Int
  worth : Int
  band : Nat
structure Cfg where
  shards : Int
  window : Int
  rate : Int
  table : Int
  nodes : List Nod
  accounts : List Int
  symbols : List Sym
structure Ordr where
  acct : Int
  sym : Int
  sell : Bool
  price : Int
  qty : Int
  number : Int
  second : Int
structure BEnt where
  id : Int
  ord : Ordr
  left : Int
  state : Int
  epoch : Int
structure BRow where
  nums : List Int
  second : Int
  count : Int
structure Bk where
  shard : Int
  came : Int
  rows : List BRow
  opn : List BEnt
def dNod : Nod := ⟨0, 0⟩
def dSym : Sym := ⟨0, 0, 0, 0⟩
def dOrd : Ordr := ⟨0, 0, false, 0, 0, 0, 0⟩
def dEnt : BEnt := ⟨0, dOrd, 0, 0, 0⟩
def dRow : BRow := ⟨[], 0, 0⟩
def eI (n : Int) : AV := .int false .i64 n
def eNod (n : Nod) : AV := .agg [.int false .i64 n.par, .int false .i64 n.cap]
def eSym (s : Sym) : AV := .agg [.int false .i64 s.price, .int false .i64 s.qty, .int false .i64 s.worth, .val (.float .f64 s.band)]
def eCfg (g f : Bool) (c : Cfg) : AV := .agg [.int false .i64 c.shards, .int false .i64 c.window, .int false .i64 c.rate, .int false .i64 c.table, .mlist 2 g f Nod eNod dNod c.nodes, .mlist 1 g f Int eI 0 c.accounts, .mlist 4 true false Sym eSym dSym c.symbols]
def eOrd (o : Ordr) : AV := .agg [.int false .i64 o.acct, .int false .i64 o.sym, .bool o.sell, .int false .i64 o.price, .int false .i64 o.qty, .int false .i64 o.number, .int false .i64 o.second]
def eEnt (e : BEnt) : AV := .agg [.int false .i64 e.id, .int false .i64 e.ord.acct, .int false .i64 e.ord.sym, .bool e.ord.sell, .int false .i64 e.ord.price, .int false .i64 e.ord.qty, .int false .i64 e.ord.number, .int false .i64 e.ord.second, .int false .i64 e.left, .int false .i64 e.state, .int false .i64 e.epoch]
def eRow (r : BRow) : AV := .agg [.mlist 1 true false Int eI 0 r.nums, .int false .i64 r.second, .int false .i64 r.count]
def eBk (b : Bk) : AV := .agg [.int false .i64 b.shard, .int false .i64 b.came, .mlist 3 true false BRow eRow dRow b.rows, .mlist 11 true false BEnt eEnt dEnt b.opn]
theorem getD_all {α : Type} {p : α → Prop} {l : List α} {d : α} (h : ∀ x ∈ l, p x) (hd : p d) (i : Nat) : p (l.getD i d) := by
  rw [List.getD_eq_getElem?_getD]
  cases hi : l[i]? with
  | none => exact hd
  | some x => exact h x (List.mem_of_getElem? hi)
theorem set_getD {α : Type} (l : List α) (d : α) (i : Nat) (h : i < l.length) : l.set i (l.getD i d) = l := by
  rw [List.getD_eq_getElem?_getD, List.getElem?_eq_getElem h]
  simp
theorem foldl_take {α β : Type} (f : β → α → β) (a : β) (l : List α) (d : α) (i : Nat) (h : i < l.length) : (l.take (i + 1)).foldl f a = f ((l.take i).foldl f a) (l.getD i d) := by
  rw [List.take_succ_eq_append_getElem h, List.foldl_append, List.getD_eq_getElem?_getD, List.getElem?_eq_getElem h]
  rfl
theorem map_take {α β : Type} (f : α → β) (l : List α) (d : α) (i : Nat) (h : i < l.length) : (l.take (i + 1)).map f = (l.take i).map f ++ [f (l.getD i d)] := by
  rw [List.take_succ_eq_append_getElem h, List.map_append, List.getD_eq_getElem?_getD, List.getElem?_eq_getElem h]
  rfl
theorem tk0 {n : Nat} {l : List AV} (h : l.length ≤ n) : real.tak n (real.drp 0 l) = l := List.take_of_length_le (by simpa [real] using h)
theorem app1 {α : Type} (enc : α → AV) (out : List α) (c : α) : (List.drop 0 (List.map enc out)).append (List.take 1 (List.drop 0 [enc c])) = (out ++ [c]).map enc := by simp
theorem app1w {α : Type} {enc : α → AV} (out : List α) (c : α) {v : AV} (h : Wk v (enc c)) : Wks ((List.drop 0 (List.map enc out)).append (List.take 1 (List.drop 0 [v]))) ((out ++ [c]).map enc) := by
  have e : (List.drop 0 (List.map enc out)).append (List.take 1 (List.drop 0 [v])) = out.map enc ++ [v] := by simp
  rw [e, List.map_append]
  exact Wks.append (Wks.refl _) (Wks.cons h Wks.nil)
theorem fEnt : (⟨0, ⟨0, 0, false, 0, 0, 0, 0⟩, 0, 0, 0⟩ : BEnt) = dEnt := rfl
theorem fRow : (⟨[], 0, 0⟩ : BRow) = dRow := rfl
theorem fNod : (⟨0, 0⟩ : Nod) = dNod := rfl
theorem fSym : (⟨0, 0, 0, 0⟩ : Sym) = dSym := rfl
theorem nc (n : Nat) : (NatCast.natCast n : Int) = Int.ofNat n := rfl
theorem wI {x : Int} (h : -9223372036854775808 ≤ x) (k : x ≤ 9223372036854775807) : IntKind.i64.wrap x = x := by rw [IntKind.wrap_i64]; omega
theorem wU {x : Int} (h : 0 ≤ x) (k : x ≤ 18446744073709551615) : IntKind.u64.wrap x = x := by
  have e : (2 : Int) ^ IntKind.u64.bits = 18446744073709551616 := by decide
  unfold IntKind.wrap
  simp only [e, IntKind.signed, Bool.false_and, Bool.false_eq_true, if_false]
  omega
theorem wU' (x : Int) : IntKind.u64.wrap x = x % 18446744073709551616 := by
  have e : (2 : Int) ^ IntKind.u64.bits = 18446744073709551616 := by decide
  unfold IntKind.wrap
  simp only [e, IntKind.signed, Bool.false_and, Bool.false_eq_true, if_false]
theorem mid_eq {i j : Int} (h0 : 0 ≤ i) (h : i ≤ j) (hj : j < 4611686018427387904) :
    IntKind.i64.wrap ((IntKind.u64.wrap (IntKind.i64.wrap (i + j))).fdiv (2 ^ min (1 : Int).toNat IntKind.u64.bits)) = (i + j) / 2 := by
  rw [wI (x := i + j) (by omega) (by omega), wU (by omega) (by omega)]
  have e : ((2 : Int) ^ min (1 : Int).toNat IntKind.u64.bits) = 2 := by decide
  rw [e, Int.fdiv_eq_ediv_of_nonneg _ (by omega), wI (by omega) (by omega)]
end Go.Proofs.Ytckkcgkgfkgfdaa.AM
