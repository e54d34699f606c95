/-
  No cell of these rows narrows 'for every input' (looked for: loops, veiled, ifaces, maps, wideKeys, modest, calm, conditions, laid).
  DERIVED. THE GIVEN ROWS OF THIS SEAT. 12 by the template 'for every input the law returns true; each argument reads behind the call as it read before'; 0 by the template 'total and deterministic' (their statements: YtgikjgekdeaneaaTotals.lean).
  GIVEN WITH THE SEED: the statements are not yours to turn. If you find one false, say at which input.
  Laid BY PROGRAM, IN A SANDBOX (cutbox-rows.mjs): the forced cells as the released guide's own fill.sh prints them over the translation e5947c33950fecfb… (all of the seat's roots in one cut). By AI agents, Wed Nov 11 2026. No macro, syntax, notation, axiom, sorry.
-/
import Derived.Test.YtgikjgekdeaneaaChecked
import GoSem.Claim
import GoSem.ClaimJoined
import GoSem.ClaimMapViews
import Derived.JoinedTies
import Derived.KernelRfl
namespace Go.Proofs.Ytgikjgekdeaneaa
/- THE CELL 'sum', in the pinned program and in every row, IS THE sha256 OF THE DUMP (.gsa) THAT YtgikjgekdeaneaaProg.lean LOADS. Nothing in Lean hashes anything: it is a label: what it is worth is what the hold of that sum in a sandbox is worth. -/
noncomputable def Try.pinned : Pinned := { name := "ytgikjgekdeaneaa", sum := "e5947c33950fecfba27f871b42c10abbd4f7b174a61351c9e7d686e342ca97aa", checked := Try.checked }
namespace Rows
def none {H : Type} : Left H := { results := [], args := [] }

/-- 'stopgatelaw06.WireEncodes': WHATEVER THE INPUT: true; the input reads as it did. -/
def wireEncodesSpec : ChangeSpec := { name := "wireEncodes", fn := fun _ => fun
  | [d] => { results := [.lit (.bool true)], args := [d] }
  | _ => none }
def wireEncodesRow : OpenClaim := { program := "ytgikjgekdeaneaa", sum := "e5947c33950fecfba27f871b42c10abbd4f7b174a61351c9e7d686e342ca97aa", func := "stopgate/stopgatelaw06.WireEncodes", spec := "wireEncodes", apart := false }
def WireEncodesSaid : Prop := wireEncodesRow.holds Try.pinned (OpenSpec.ofChange wireEncodesSpec)

/-- ITS FALSE NEIGHBOUR: 'it returns false'. Refute it at one input. -/
def wireEncodesWrong : ChangeSpec := { name := "wireEncodes", fn := fun _ => fun
  | [d] => { results := [.lit (.bool false)], args := [d] }
  | _ => none }
def WireEncodesWrongFalsely : Prop := wireEncodesRow.holds Try.pinned (OpenSpec.ofChange wireEncodesWrong)

/-- 'stopgatelaw06.WireDecodes': WHATEVER THE INPUT: true; the input reads as it did. -/
def wireDecodesSpec : ChangeSpec := { name := "wireDecodes", fn := fun _ => fun
  | [d] => { results := [.lit (.bool true)], args := [d] }
  | _ => none }
def wireDecodesRow : OpenClaim := { program := "ytgikjgekdeaneaa", sum := "e5947c33950fecfba27f871b42c10abbd4f7b174a61351c9e7d686e342ca97aa", func := "stopgate/stopgatelaw06.WireDecodes", spec := "wireDecodes", apart := false }
def WireDecodesSaid : Prop := wireDecodesRow.holds Try.pinned (OpenSpec.ofChange wireDecodesSpec)

/-- ITS FALSE NEIGHBOUR: 'it returns false'. Refute it at one input. -/
def wireDecodesWrong : ChangeSpec := { name := "wireDecodes", fn := fun _ => fun
  | [d] => { results := [.lit (.bool false)], args := [d] }
  | _ => none }
def WireDecodesWrongFalsely : Prop := wireDecodesRow.holds Try.pinned (OpenSpec.ofChange wireDecodesWrong)

/-- 'stopgatelaw08.CellsActs': WHATEVER THE INPUT: true; the input reads as it did. -/
def cellsActsSpec : ChangeSpec := { name := "cellsActs", fn := fun _ => fun
  | [d] => { results := [.lit (.bool true)], args := [d] }
  | _ => none }
def cellsActsRow : OpenClaim := { program := "ytgikjgekdeaneaa", sum := "e5947c33950fecfba27f871b42c10abbd4f7b174a61351c9e7d686e342ca97aa", func := "stopgate/stopgatelaw08.CellsActs", spec := "cellsActs", apart := false }
def CellsActsSaid : Prop := cellsActsRow.holds Try.pinned (OpenSpec.ofChange cellsActsSpec)

/-- ITS FALSE NEIGHBOUR: 'it returns false'. Refute it at one input. -/
def cellsActsWrong : ChangeSpec := { name := "cellsActs", fn := fun _ => fun
  | [d] => { results := [.lit (.bool false)], args := [d] }
  | _ => none }
def CellsActsWrongFalsely : Prop := cellsActsRow.holds Try.pinned (OpenSpec.ofChange cellsActsWrong)

/-- 'stopgatelaw08.CellsNews': WHATEVER THE INPUT: true; the input reads as it did. -/
def cellsNewsSpec : ChangeSpec := { name := "cellsNews", fn := fun _ => fun
  | [d1, d2] => { results := [.lit (.bool true)], args := [d1, d2] }
  | _ => none }
def cellsNewsRow : OpenClaim := { program := "ytgikjgekdeaneaa", sum := "e5947c33950fecfba27f871b42c10abbd4f7b174a61351c9e7d686e342ca97aa", func := "stopgate/stopgatelaw08.CellsNews", spec := "cellsNews", apart := false }
def CellsNewsSaid : Prop := cellsNewsRow.holds Try.pinned (OpenSpec.ofChange cellsNewsSpec)

/-- ITS FALSE NEIGHBOUR: 'it returns false'. Refute it at one input. -/
def cellsNewsWrong : ChangeSpec := { name := "cellsNews", fn := fun _ => fun
  | [d1, d2] => { results := [.lit (.bool false)], args := [d1, d2] }
  | _ => none }
def CellsNewsWrongFalsely : Prop := cellsNewsRow.holds Try.pinned (OpenSpec.ofChange cellsNewsWrong)

/-- 'stopgatelaw08.CellsHolds': WHATEVER THE INPUT: true; the input reads as it did. -/
def cellsHoldsSpec : ChangeSpec := { name := "cellsHolds", fn := fun _ => fun
  | [d] => { results := [.lit (.bool true)], args := [d] }
  | _ => none }
def cellsHoldsRow : OpenClaim := { program := "ytgikjgekdeaneaa", sum := "e5947c33950fecfba27f871b42c10abbd4f7b174a61351c9e7d686e342ca97aa", func := "stopgate/stopgatelaw08.CellsHolds", spec := "cellsHolds", apart := false }
def CellsHoldsSaid : Prop := cellsHoldsRow.holds Try.pinned (OpenSpec.ofChange cellsHoldsSpec)

/-- ITS FALSE NEIGHBOUR: 'it returns false'. Refute it at one input. -/
def cellsHoldsWrong : ChangeSpec := { name := "cellsHolds", fn := fun _ => fun
  | [d] => { results := [.lit (.bool false)], args := [d] }
  | _ => none }
def CellsHoldsWrongFalsely : Prop := cellsHoldsRow.holds Try.pinned (OpenSpec.ofChange cellsHoldsWrong)

/-- 'stopgatelaw06.WireAlls': WHATEVER THE INPUT: true; the input reads as it did. -/
def wireAllsSpec : ChangeSpec := { name := "wireAlls", fn := fun _ => fun
  | [d] => { results := [.lit (.bool true)], args := [d] }
  | _ => none }
def wireAllsRow : OpenClaim := { program := "ytgikjgekdeaneaa", sum := "e5947c33950fecfba27f871b42c10abbd4f7b174a61351c9e7d686e342ca97aa", func := "stopgate/stopgatelaw06.WireAlls", spec := "wireAlls", apart := false }
def WireAllsSaid : Prop := wireAllsRow.holds Try.pinned (OpenSpec.ofChange wireAllsSpec)

/-- ITS FALSE NEIGHBOUR: 'it returns false'. Refute it at one input. -/
def wireAllsWrong : ChangeSpec := { name := "wireAlls", fn := fun _ => fun
  | [d] => { results := [.lit (.bool false)], args := [d] }
  | _ => none }
def WireAllsWrongFalsely : Prop := wireAllsRow.holds Try.pinned (OpenSpec.ofChange wireAllsWrong)

/-- 'stopgatelaw06.WireOnce': WHATEVER THE INPUT: true; the input reads as it did. -/
def wireOnceSpec : ChangeSpec := { name := "wireOnce", fn := fun _ => fun
  | [d] => { results := [.lit (.bool true)], args := [d] }
  | _ => none }
def wireOnceRow : OpenClaim := { program := "ytgikjgekdeaneaa", sum := "e5947c33950fecfba27f871b42c10abbd4f7b174a61351c9e7d686e342ca97aa", func := "stopgate/stopgatelaw06.WireOnce", spec := "wireOnce", apart := false }
def WireOnceSaid : Prop := wireOnceRow.holds Try.pinned (OpenSpec.ofChange wireOnceSpec)

/-- ITS FALSE NEIGHBOUR: 'it returns false'. Refute it at one input. -/
def wireOnceWrong : ChangeSpec := { name := "wireOnce", fn := fun _ => fun
  | [d] => { results := [.lit (.bool false)], args := [d] }
  | _ => none }
def WireOnceWrongFalsely : Prop := wireOnceRow.holds Try.pinned (OpenSpec.ofChange wireOnceWrong)

/-- 'stopgatelaw07.BookNumbers': WHATEVER THE INPUT: true; the input reads as it did. -/
def bookNumbersSpec : ChangeSpec := { name := "bookNumbers", fn := fun _ => fun
  | [d1, d2, d3] => { results := [.lit (.bool true)], args := [d1, d2, d3] }
  | _ => none }
def bookNumbersRow : OpenClaim := { program := "ytgikjgekdeaneaa", sum := "e5947c33950fecfba27f871b42c10abbd4f7b174a61351c9e7d686e342ca97aa", func := "stopgate/stopgatelaw07.BookNumbers", spec := "bookNumbers", inPlace := ["math.Float64frombits"], unfollowed := true, recurses := true, apart := false }
def BookNumbersSaid : Prop := bookNumbersRow.holds Try.pinned (OpenSpec.ofChange bookNumbersSpec)

/-- ITS FALSE NEIGHBOUR: 'it returns false'. Refute it at one input. -/
def bookNumbersWrong : ChangeSpec := { name := "bookNumbers", fn := fun _ => fun
  | [d1, d2, d3] => { results := [.lit (.bool false)], args := [d1, d2, d3] }
  | _ => none }
def BookNumbersWrongFalsely : Prop := bookNumbersRow.holds Try.pinned (OpenSpec.ofChange bookNumbersWrong)

/-- 'stopgatelaw07.BookRates': WHATEVER THE INPUT: true; the input reads as it did. -/
def bookRatesSpec : ChangeSpec := { name := "bookRates", fn := fun _ => fun
  | [d1, d2] => { results := [.lit (.bool true)], args := [d1, d2] }
  | _ => none }
def bookRatesRow : OpenClaim := { program := "ytgikjgekdeaneaa", sum := "e5947c33950fecfba27f871b42c10abbd4f7b174a61351c9e7d686e342ca97aa", func := "stopgate/stopgatelaw07.BookRates", spec := "bookRates", unfollowed := true, recurses := true, apart := false }
def BookRatesSaid : Prop := bookRatesRow.holds Try.pinned (OpenSpec.ofChange bookRatesSpec)

/-- ITS FALSE NEIGHBOUR: 'it returns false'. Refute it at one input. -/
def bookRatesWrong : ChangeSpec := { name := "bookRates", fn := fun _ => fun
  | [d1, d2] => { results := [.lit (.bool false)], args := [d1, d2] }
  | _ => none }
def BookRatesWrongFalsely : Prop := bookRatesRow.holds Try.pinned (OpenSpec.ofChange bookRatesWrong)

/-- 'stopgatelaw05.RulesChecks': WHATEVER THE INPUT: true; the input reads as it did. -/
def rulesChecksSpec : ChangeSpec := { name := "rulesChecks", fn := fun _ => fun
  | [d] => { results := [.lit (.bool true)], args := [d] }
  | _ => none }
def rulesChecksRow : OpenClaim := { program := "ytgikjgekdeaneaa", sum := "e5947c33950fecfba27f871b42c10abbd4f7b174a61351c9e7d686e342ca97aa", func := "stopgate/stopgatelaw05.RulesChecks", spec := "rulesChecks", inPlace := ["math.Float64frombits", "math.Float64bits", "math.archFloor", "math.archTrunc"], unfollowed := true, recurses := true, apart := false }
def RulesChecksSaid : Prop := rulesChecksRow.holds Try.pinned (OpenSpec.ofChange rulesChecksSpec)

/-- ITS FALSE NEIGHBOUR: 'it returns false'. Refute it at one input. -/
def rulesChecksWrong : ChangeSpec := { name := "rulesChecks", fn := fun _ => fun
  | [d] => { results := [.lit (.bool false)], args := [d] }
  | _ => none }
def RulesChecksWrongFalsely : Prop := rulesChecksRow.holds Try.pinned (OpenSpec.ofChange rulesChecksWrong)

/-- 'stopgatelaw05.RulesLooks': WHATEVER THE INPUT: true; the input reads as it did. -/
def rulesLooksSpec : ChangeSpec := { name := "rulesLooks", fn := fun _ => fun
  | [d1, d2] => { results := [.lit (.bool true)], args := [d1, d2] }
  | _ => none }
def rulesLooksRow : OpenClaim := { program := "ytgikjgekdeaneaa", sum := "e5947c33950fecfba27f871b42c10abbd4f7b174a61351c9e7d686e342ca97aa", func := "stopgate/stopgatelaw05.RulesLooks", spec := "rulesLooks", inPlace := ["math.Float64frombits", "math.Float64bits", "math.archFloor", "math.archTrunc"], unfollowed := true, recurses := true, apart := false }
def RulesLooksSaid : Prop := rulesLooksRow.holds Try.pinned (OpenSpec.ofChange rulesLooksSpec)

/-- ITS FALSE NEIGHBOUR: 'it returns false'. Refute it at one input. -/
def rulesLooksWrong : ChangeSpec := { name := "rulesLooks", fn := fun _ => fun
  | [d1, d2] => { results := [.lit (.bool false)], args := [d1, d2] }
  | _ => none }
def RulesLooksWrongFalsely : Prop := rulesLooksRow.holds Try.pinned (OpenSpec.ofChange rulesLooksWrong)

/-- 'stopgatelaw05.RulesPrices': WHATEVER THE INPUT: true; the input reads as it did. -/
def rulesPricesSpec : ChangeSpec := { name := "rulesPrices", fn := fun _ => fun
  | [d1, d2, d3] => { results := [.lit (.bool true)], args := [d1, d2, d3] }
  | _ => none }
def rulesPricesRow : OpenClaim := { program := "ytgikjgekdeaneaa", sum := "e5947c33950fecfba27f871b42c10abbd4f7b174a61351c9e7d686e342ca97aa", func := "stopgate/stopgatelaw05.RulesPrices", spec := "rulesPrices", inPlace := ["math.Float64frombits", "math.Float64bits", "math.archFloor", "math.archTrunc"], unfollowed := true, recurses := true, apart := false }
def RulesPricesSaid : Prop := rulesPricesRow.holds Try.pinned (OpenSpec.ofChange rulesPricesSpec)

/-- ITS FALSE NEIGHBOUR: 'it returns false'. Refute it at one input. -/
def rulesPricesWrong : ChangeSpec := { name := "rulesPrices", fn := fun _ => fun
  | [d1, d2, d3] => { results := [.lit (.bool false)], args := [d1, d2, d3] }
  | _ => none }
def RulesPricesWrongFalsely : Prop := rulesPricesRow.holds Try.pinned (OpenSpec.ofChange rulesPricesWrong)

/- THE SECOND FORM. 'bulk': how many values and letters a reading holds, each counted each time it is reached (what is shared counts as often as it is met; a slice's spare places count too). A statement '..UptoSaid' is the law's where the arguments, and the package variables that the reading takes, are together of bulk at most 1048576: NARROWER than '..Said'. Prove '..Said' where nothing that the law and all that it calls make is longer than what came in: it says more and counts as full. Else prove '..UptoSaid'. A law counts once. -/
mutual
def uptoBulk {H : Type} : DataW H → Nat
  | .lit (.string bytes) => bytes.length + 1
  | .lit _ => 1
  | .nil => 1
  | .ptr d => uptoBulk d + 1
  | .slice elems spare => uptoBulkAll elems + uptoBulkAll spare + 1
  | .agg parts => uptoBulkAll parts + 1
  | .iface _ d => uptoBulk d + 1
  | .map entries => uptoBulkEntries entries + 1
  | .held _ => 1
def uptoBulkAll {H : Type} : List (DataW H) → Nat
  | [] => 0
  | d :: r => uptoBulk d + uptoBulkAll r
def uptoBulkEntries {H : Type} : List (Lit × DataW H) → Nat
  | [] => 0
  | x :: r => uptoBulkEntry x + uptoBulkEntries r
def uptoBulkEntry {H : Type} : Lit × DataW H → Nat
  | (.string bytes, d) => bytes.length + uptoBulk d + 1
  | (_, d) => uptoBulk d + 1
 end
def uptoSmall : (H : Type) → List (DataW H) → Bool := fun _ ds => decide (uptoBulkAll ds ≤ 1048576)
def OpenSpec.upto (s : _root_.Go.ChangeSpec) : _root_.Go.OpenSpec := { _root_.Go.OpenSpec.ofChange s with cond := some uptoSmall }

/-- 'stopgatelaw06.WireEncodes', WHERE WHAT IT READS IS OF BULK AT MOST 1048576: true; the input reads as it did. -/
def wireEncodesUptoRow : OpenClaim := { program := "ytgikjgekdeaneaa", sum := "e5947c33950fecfba27f871b42c10abbd4f7b174a61351c9e7d686e342ca97aa", func := "stopgate/stopgatelaw06.WireEncodes", spec := "wireEncodes", apart := false, narrowed := true }
def WireEncodesUptoSaid : Prop := wireEncodesUptoRow.holds Try.pinned (OpenSpec.upto wireEncodesSpec)

/-- 'stopgatelaw06.WireDecodes', WHERE WHAT IT READS IS OF BULK AT MOST 1048576: true; the input reads as it did. -/
def wireDecodesUptoRow : OpenClaim := { program := "ytgikjgekdeaneaa", sum := "e5947c33950fecfba27f871b42c10abbd4f7b174a61351c9e7d686e342ca97aa", func := "stopgate/stopgatelaw06.WireDecodes", spec := "wireDecodes", apart := false, narrowed := true }
def WireDecodesUptoSaid : Prop := wireDecodesUptoRow.holds Try.pinned (OpenSpec.upto wireDecodesSpec)

/-- 'stopgatelaw08.CellsActs', WHERE WHAT IT READS IS OF BULK AT MOST 1048576: true; the input reads as it did. -/
def cellsActsUptoRow : OpenClaim := { program := "ytgikjgekdeaneaa", sum := "e5947c33950fecfba27f871b42c10abbd4f7b174a61351c9e7d686e342ca97aa", func := "stopgate/stopgatelaw08.CellsActs", spec := "cellsActs", apart := false, narrowed := true }
def CellsActsUptoSaid : Prop := cellsActsUptoRow.holds Try.pinned (OpenSpec.upto cellsActsSpec)

/-- 'stopgatelaw08.CellsNews', WHERE WHAT IT READS IS OF BULK AT MOST 1048576: true; the input reads as it did. -/
def cellsNewsUptoRow : OpenClaim := { program := "ytgikjgekdeaneaa", sum := "e5947c33950fecfba27f871b42c10abbd4f7b174a61351c9e7d686e342ca97aa", func := "stopgate/stopgatelaw08.CellsNews", spec := "cellsNews", apart := false, narrowed := true }
def CellsNewsUptoSaid : Prop := cellsNewsUptoRow.holds Try.pinned (OpenSpec.upto cellsNewsSpec)

/-- 'stopgatelaw08.CellsHolds', WHERE WHAT IT READS IS OF BULK AT MOST 1048576: true; the input reads as it did. -/
def cellsHoldsUptoRow : OpenClaim := { program := "ytgikjgekdeaneaa", sum := "e5947c33950fecfba27f871b42c10abbd4f7b174a61351c9e7d686e342ca97aa", func := "stopgate/stopgatelaw08.CellsHolds", spec := "cellsHolds", apart := false, narrowed := true }
def CellsHoldsUptoSaid : Prop := cellsHoldsUptoRow.holds Try.pinned (OpenSpec.upto cellsHoldsSpec)

/-- 'stopgatelaw06.WireAlls', WHERE WHAT IT READS IS OF BULK AT MOST 1048576: true; the input reads as it did. -/
def wireAllsUptoRow : OpenClaim := { program := "ytgikjgekdeaneaa", sum := "e5947c33950fecfba27f871b42c10abbd4f7b174a61351c9e7d686e342ca97aa", func := "stopgate/stopgatelaw06.WireAlls", spec := "wireAlls", apart := false, narrowed := true }
def WireAllsUptoSaid : Prop := wireAllsUptoRow.holds Try.pinned (OpenSpec.upto wireAllsSpec)

/-- 'stopgatelaw06.WireOnce', WHERE WHAT IT READS IS OF BULK AT MOST 1048576: true; the input reads as it did. -/
def wireOnceUptoRow : OpenClaim := { program := "ytgikjgekdeaneaa", sum := "e5947c33950fecfba27f871b42c10abbd4f7b174a61351c9e7d686e342ca97aa", func := "stopgate/stopgatelaw06.WireOnce", spec := "wireOnce", apart := false, narrowed := true }
def WireOnceUptoSaid : Prop := wireOnceUptoRow.holds Try.pinned (OpenSpec.upto wireOnceSpec)

/-- 'stopgatelaw07.BookNumbers', WHERE WHAT IT READS IS OF BULK AT MOST 1048576: true; the input reads as it did. -/
def bookNumbersUptoRow : OpenClaim := { program := "ytgikjgekdeaneaa", sum := "e5947c33950fecfba27f871b42c10abbd4f7b174a61351c9e7d686e342ca97aa", func := "stopgate/stopgatelaw07.BookNumbers", spec := "bookNumbers", inPlace := ["math.Float64frombits"], unfollowed := true, recurses := true, apart := false, narrowed := true }
def BookNumbersUptoSaid : Prop := bookNumbersUptoRow.holds Try.pinned (OpenSpec.upto bookNumbersSpec)

/-- 'stopgatelaw07.BookRates', WHERE WHAT IT READS IS OF BULK AT MOST 1048576: true; the input reads as it did. -/
def bookRatesUptoRow : OpenClaim := { program := "ytgikjgekdeaneaa", sum := "e5947c33950fecfba27f871b42c10abbd4f7b174a61351c9e7d686e342ca97aa", func := "stopgate/stopgatelaw07.BookRates", spec := "bookRates", unfollowed := true, recurses := true, apart := false, narrowed := true }
def BookRatesUptoSaid : Prop := bookRatesUptoRow.holds Try.pinned (OpenSpec.upto bookRatesSpec)

/-- 'stopgatelaw05.RulesChecks', WHERE WHAT IT READS IS OF BULK AT MOST 1048576: true; the input reads as it did. -/
def rulesChecksUptoRow : OpenClaim := { program := "ytgikjgekdeaneaa", sum := "e5947c33950fecfba27f871b42c10abbd4f7b174a61351c9e7d686e342ca97aa", func := "stopgate/stopgatelaw05.RulesChecks", spec := "rulesChecks", inPlace := ["math.Float64frombits", "math.Float64bits", "math.archFloor", "math.archTrunc"], unfollowed := true, recurses := true, apart := false, narrowed := true }
def RulesChecksUptoSaid : Prop := rulesChecksUptoRow.holds Try.pinned (OpenSpec.upto rulesChecksSpec)

/-- 'stopgatelaw05.RulesLooks', WHERE WHAT IT READS IS OF BULK AT MOST 1048576: true; the input reads as it did. -/
def rulesLooksUptoRow : OpenClaim := { program := "ytgikjgekdeaneaa", sum := "e5947c33950fecfba27f871b42c10abbd4f7b174a61351c9e7d686e342ca97aa", func := "stopgate/stopgatelaw05.RulesLooks", spec := "rulesLooks", inPlace := ["math.Float64frombits", "math.Float64bits", "math.archFloor", "math.archTrunc"], unfollowed := true, recurses := true, apart := false, narrowed := true }
def RulesLooksUptoSaid : Prop := rulesLooksUptoRow.holds Try.pinned (OpenSpec.upto rulesLooksSpec)

/-- 'stopgatelaw05.RulesPrices', WHERE WHAT IT READS IS OF BULK AT MOST 1048576: true; the input reads as it did. -/
def rulesPricesUptoRow : OpenClaim := { program := "ytgikjgekdeaneaa", sum := "e5947c33950fecfba27f871b42c10abbd4f7b174a61351c9e7d686e342ca97aa", func := "stopgate/stopgatelaw05.RulesPrices", spec := "rulesPrices", inPlace := ["math.Float64frombits", "math.Float64bits", "math.archFloor", "math.archTrunc"], unfollowed := true, recurses := true, apart := false, narrowed := true }
def RulesPricesUptoSaid : Prop := rulesPricesUptoRow.holds Try.pinned (OpenSpec.upto rulesPricesSpec)

end Rows
end Go.Proofs.Ytgikjgekdeaneaa
