/-
  No cell of these rows narrows 'for every input' (looked for: loops, veiled, ifaces, maps, wideKeys, modest, calm, conditions, laid).
  DERIVED. THE GIVEN ROWS OF THIS SEAT. 3 by the template 'for every input the law returns true; each argument reads behind the call as it read before'; 0 by the template 'total and deterministic' (their statements: YtckkcgkgfkgfdaaTotals.lean).
  GIVEN WITH THE SEED: the statements are not yours to turn. If you find one false, say at which input.
  Laid BY PROGRAM, IN A SANDBOX (cutbox-rows.mjs): the forced cells as the released guide's own fill.sh prints them over the translation 8c4480efdc4daa28… (all of the seat's roots in one cut). By AI agents, Wed Nov 11 2026. No macro, syntax, notation, axiom, sorry.
-/
import Derived.Test.YtckkcgkgfkgfdaaChecked
import GoSem.Claim
import GoSem.ClaimJoined
import GoSem.ClaimMapViews
import Derived.JoinedTies
import Derived.KernelRfl
namespace Go.Proofs.Ytckkcgkgfkgfdaa
/- THE CELL 'sum', in the pinned program and in every row, IS THE sha256 OF THE DUMP (.gsa) THAT YtckkcgkgfkgfdaaProg.lean LOADS. Nothing in Lean hashes anything: it is a label: what it is worth is what the hold of that sum in a sandbox is worth. -/
noncomputable def Try.pinned : Pinned := { name := "ytckkcgkgfkgfdaa", sum := "8c4480efdc4daa2892f7c909a0013bc52ba3257a53407bd70f2dacbb72de28cf", checked := Try.checked }
namespace Rows
def none {H : Type} : Left H := { results := [], args := [] }

/-- 'stopgatelaw07.BookNumbers': WHATEVER THE INPUT: true; the input reads as it did. -/
def bookNumbersSpec : ChangeSpec := { name := "bookNumbers", fn := fun _ => fun
  | [d1, d2, d3] => { results := [.lit (.bool true)], args := [d1, d2, d3] }
  | _ => none }
def bookNumbersRow : OpenClaim := { program := "ytckkcgkgfkgfdaa", sum := "8c4480efdc4daa2892f7c909a0013bc52ba3257a53407bd70f2dacbb72de28cf", func := "stopgate/stopgatelaw07.BookNumbers", spec := "bookNumbers", inPlace := ["math.Float64frombits"], unfollowed := true, recurses := true, apart := false }
def BookNumbersSaid : Prop := bookNumbersRow.holds Try.pinned (OpenSpec.ofChange bookNumbersSpec)

/-- ITS FALSE NEIGHBOUR: 'it returns false'. Refute it at one input. -/
def bookNumbersWrong : ChangeSpec := { name := "bookNumbers", fn := fun _ => fun
  | [d1, d2, d3] => { results := [.lit (.bool false)], args := [d1, d2, d3] }
  | _ => none }
def BookNumbersWrongFalsely : Prop := bookNumbersRow.holds Try.pinned (OpenSpec.ofChange bookNumbersWrong)

/-- 'stopgatelaw07.BookRates': WHATEVER THE INPUT: true; the input reads as it did. -/
def bookRatesSpec : ChangeSpec := { name := "bookRates", fn := fun _ => fun
  | [d1, d2] => { results := [.lit (.bool true)], args := [d1, d2] }
  | _ => none }
def bookRatesRow : OpenClaim := { program := "ytckkcgkgfkgfdaa", sum := "8c4480efdc4daa2892f7c909a0013bc52ba3257a53407bd70f2dacbb72de28cf", func := "stopgate/stopgatelaw07.BookRates", spec := "bookRates", unfollowed := true, recurses := true, apart := false }
def BookRatesSaid : Prop := bookRatesRow.holds Try.pinned (OpenSpec.ofChange bookRatesSpec)

/-- ITS FALSE NEIGHBOUR: 'it returns false'. Refute it at one input. -/
def bookRatesWrong : ChangeSpec := { name := "bookRates", fn := fun _ => fun
  | [d1, d2] => { results := [.lit (.bool false)], args := [d1, d2] }
  | _ => none }
def BookRatesWrongFalsely : Prop := bookRatesRow.holds Try.pinned (OpenSpec.ofChange bookRatesWrong)

/-- 'stopgatelaw09.ModelBegins': WHATEVER THE INPUT: true; the input reads as it did. -/
def modelBeginsSpec : ChangeSpec := { name := "modelBegins", fn := fun _ => fun
  | [d] => { results := [.lit (.bool true)], args := [d] }
  | _ => none }
def modelBeginsRow : OpenClaim := { program := "ytckkcgkgfkgfdaa", sum := "8c4480efdc4daa2892f7c909a0013bc52ba3257a53407bd70f2dacbb72de28cf", func := "stopgate/stopgatelaw09.ModelBegins", spec := "modelBegins", inPlace := ["math.Float64frombits", "math.Float64bits", "math.archFloor", "math.archTrunc"], unfollowed := true, recurses := true, apart := false }
def ModelBeginsSaid : Prop := modelBeginsRow.holds Try.pinned (OpenSpec.ofChange modelBeginsSpec)

/-- ITS FALSE NEIGHBOUR: 'it returns false'. Refute it at one input. -/
def modelBeginsWrong : ChangeSpec := { name := "modelBegins", fn := fun _ => fun
  | [d] => { results := [.lit (.bool false)], args := [d] }
  | _ => none }
def ModelBeginsWrongFalsely : Prop := modelBeginsRow.holds Try.pinned (OpenSpec.ofChange modelBeginsWrong)

/- THE SECOND FORM. 'bulk': how many values and letters a reading holds, each counted each time it is reached (what is shared counts as often as it is met; a slice's spare places count too). A statement '..UptoSaid' is the law's where the arguments, and the package variables that the reading takes, are together of bulk at most 1048576: NARROWER than '..Said'. Prove '..Said' where nothing that the law and all that it calls make is longer than what came in: it says more and counts as full. Else prove '..UptoSaid'. A law counts once. -/
mutual
def uptoBulk {H : Type} : DataW H → Nat
  | .lit (.string bytes) => bytes.length + 1
  | .lit _ => 1
  | .nil => 1
  | .ptr d => uptoBulk d + 1
  | .slice elems spare => uptoBulkAll elems + uptoBulkAll spare + 1
  | .agg parts => uptoBulkAll parts + 1
  | .iface _ d => uptoBulk d + 1
  | .map entries => uptoBulkEntries entries + 1
  | .held _ => 1
def uptoBulkAll {H : Type} : List (DataW H) → Nat
  | [] => 0
  | d :: r => uptoBulk d + uptoBulkAll r
def uptoBulkEntries {H : Type} : List (Lit × DataW H) → Nat
  | [] => 0
  | x :: r => uptoBulkEntry x + uptoBulkEntries r
def uptoBulkEntry {H : Type} : Lit × DataW H → Nat
  | (.string bytes, d) => bytes.length + uptoBulk d + 1
  | (_, d) => uptoBulk d + 1
 end
def uptoSmall : (H : Type) → List (DataW H) → Bool := fun _ ds => decide (uptoBulkAll ds ≤ 1048576)
def OpenSpec.upto (s : _root_.Go.ChangeSpec) : _root_.Go.OpenSpec := { _root_.Go.OpenSpec.ofChange s with cond := some uptoSmall }

/-- 'stopgatelaw07.BookNumbers', WHERE WHAT IT READS IS OF BULK AT MOST 1048576: true; the input reads as it did. -/
def bookNumbersUptoRow : OpenClaim := { program := "ytckkcgkgfkgfdaa", sum := "8c4480efdc4daa2892f7c909a0013bc52ba3257a53407bd70f2dacbb72de28cf", func := "stopgate/stopgatelaw07.BookNumbers", spec := "bookNumbers", inPlace := ["math.Float64frombits"], unfollowed := true, recurses := true, apart := false, narrowed := true }
def BookNumbersUptoSaid : Prop := bookNumbersUptoRow.holds Try.pinned (OpenSpec.upto bookNumbersSpec)

/-- 'stopgatelaw07.BookRates', WHERE WHAT IT READS IS OF BULK AT MOST 1048576: true; the input reads as it did. -/
def bookRatesUptoRow : OpenClaim := { program := "ytckkcgkgfkgfdaa", sum := "8c4480efdc4daa2892f7c909a0013bc52ba3257a53407bd70f2dacbb72de28cf", func := "stopgate/stopgatelaw07.BookRates", spec := "bookRates", unfollowed := true, recurses := true, apart := false, narrowed := true }
def BookRatesUptoSaid : Prop := bookRatesUptoRow.holds Try.pinned (OpenSpec.upto bookRatesSpec)

/-- 'stopgatelaw09.ModelBegins', WHERE WHAT IT READS IS OF BULK AT MOST 1048576: true; the input reads as it did. -/
def modelBeginsUptoRow : OpenClaim := { program := "ytckkcgkgfkgfdaa", sum := "8c4480efdc4daa2892f7c909a0013bc52ba3257a53407bd70f2dacbb72de28cf", func := "stopgate/stopgatelaw09.ModelBegins", spec := "modelBegins", inPlace := ["math.Float64frombits", "math.Float64bits", "math.archFloor", "math.archTrunc"], unfollowed := true, recurses := true, apart := false, narrowed := true }
def ModelBeginsUptoSaid : Prop := modelBeginsUptoRow.holds Try.pinned (OpenSpec.upto modelBeginsSpec)

end Rows
end Go.Proofs.Ytckkcgkgfkgfdaa
