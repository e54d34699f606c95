/-
  No cell of these rows narrows 'for every input' (looked for: loops, veiled, ifaces, maps, wideKeys, modest, calm, conditions, laid).
  DERIVED. THE GIVEN ROWS OF THIS SEAT. 12 by the template 'for every input the law returns true; each argument reads behind the call as it read before'; 0 by the template 'total and deterministic' (their statements: YtnodcekkbbmfnaaTotals.lean).
  GIVEN WITH THE SEED: the statements are not yours to turn. If you find one false, say at which input.
  Laid BY PROGRAM, IN A SANDBOX (cutbox-rows.mjs): the forced cells as the released guide's own fill.sh prints them over the translation a89f3233b859ac25… (all of the seat's roots in one cut). By AI agents, Wed Nov 11 2026. No macro, syntax, notation, axiom, sorry.
-/
import Derived.Test.YtnodcekkbbmfnaaChecked
import GoSem.Claim
import GoSem.ClaimJoined
import GoSem.ClaimMapViews
import Derived.JoinedTies
import Derived.KernelRfl
namespace Go.Proofs.Ytnodcekkbbmfnaa
/- THE CELL 'sum', in the pinned program and in every row, IS THE sha256 OF THE DUMP (.gsa) THAT YtnodcekkbbmfnaaProg.lean LOADS. Nothing in Lean hashes anything: it is a label: what it is worth is what the hold of that sum in a sandbox is worth. -/
noncomputable def Try.pinned : Pinned := { name := "ytnodcekkbbmfnaa", sum := "a89f3233b859ac254db01469e4034be2043e0499e21cd63c7d749cc28b255772", checked := Try.checked }
namespace Rows
def none {H : Type} : Left H := { results := [], args := [] }

/-- 'stopgatelaw01.FixedProducts': WHATEVER THE INPUT: true; the input reads as it did. -/
def fixedProductsSpec : ChangeSpec := { name := "fixedProducts", fn := fun _ => fun
  | [d1, d2] => { results := [.lit (.bool true)], args := [d1, d2] }
  | _ => none }
def fixedProductsRow : OpenClaim := { program := "ytnodcekkbbmfnaa", sum := "a89f3233b859ac254db01469e4034be2043e0499e21cd63c7d749cc28b255772", func := "stopgate/stopgatelaw01.FixedProducts", spec := "fixedProducts", apart := false }
def FixedProductsSaid : Prop := fixedProductsRow.holds Try.pinned (OpenSpec.ofChange fixedProductsSpec)

/-- ITS FALSE NEIGHBOUR: 'it returns false'. Refute it at one input. -/
def fixedProductsWrong : ChangeSpec := { name := "fixedProducts", fn := fun _ => fun
  | [d1, d2] => { results := [.lit (.bool false)], args := [d1, d2] }
  | _ => none }
def FixedProductsWrongFalsely : Prop := fixedProductsRow.holds Try.pinned (OpenSpec.ofChange fixedProductsWrong)

/-- 'stopgatelaw01.FixedParts': WHATEVER THE INPUT: true; the input reads as it did. -/
def fixedPartsSpec : ChangeSpec := { name := "fixedParts", fn := fun _ => fun
  | [d1, d2, d3] => { results := [.lit (.bool true)], args := [d1, d2, d3] }
  | _ => none }
def fixedPartsRow : OpenClaim := { program := "ytnodcekkbbmfnaa", sum := "a89f3233b859ac254db01469e4034be2043e0499e21cd63c7d749cc28b255772", func := "stopgate/stopgatelaw01.FixedParts", spec := "fixedParts", apart := false }
def FixedPartsSaid : Prop := fixedPartsRow.holds Try.pinned (OpenSpec.ofChange fixedPartsSpec)

/-- ITS FALSE NEIGHBOUR: 'it returns false'. Refute it at one input. -/
def fixedPartsWrong : ChangeSpec := { name := "fixedParts", fn := fun _ => fun
  | [d1, d2, d3] => { results := [.lit (.bool false)], args := [d1, d2, d3] }
  | _ => none }
def FixedPartsWrongFalsely : Prop := fixedPartsRow.holds Try.pinned (OpenSpec.ofChange fixedPartsWrong)

/-- 'stopgatelaw01.FixedSums': WHATEVER THE INPUT: true; the input reads as it did. -/
def fixedSumsSpec : ChangeSpec := { name := "fixedSums", fn := fun _ => fun
  | [d1, d2] => { results := [.lit (.bool true)], args := [d1, d2] }
  | _ => none }
def fixedSumsRow : OpenClaim := { program := "ytnodcekkbbmfnaa", sum := "a89f3233b859ac254db01469e4034be2043e0499e21cd63c7d749cc28b255772", func := "stopgate/stopgatelaw01.FixedSums", spec := "fixedSums", apart := false }
def FixedSumsSaid : Prop := fixedSumsRow.holds Try.pinned (OpenSpec.ofChange fixedSumsSpec)

/-- ITS FALSE NEIGHBOUR: 'it returns false'. Refute it at one input. -/
def fixedSumsWrong : ChangeSpec := { name := "fixedSums", fn := fun _ => fun
  | [d1, d2] => { results := [.lit (.bool false)], args := [d1, d2] }
  | _ => none }
def FixedSumsWrongFalsely : Prop := fixedSumsRow.holds Try.pinned (OpenSpec.ofChange fixedSumsWrong)

/-- 'stopgatelaw03.TreeChecks': WHATEVER THE INPUT: true; the input reads as it did. -/
def treeChecksSpec : ChangeSpec := { name := "treeChecks", fn := fun _ => fun
  | [d] => { results := [.lit (.bool true)], args := [d] }
  | _ => none }
def treeChecksRow : OpenClaim := { program := "ytnodcekkbbmfnaa", sum := "a89f3233b859ac254db01469e4034be2043e0499e21cd63c7d749cc28b255772", func := "stopgate/stopgatelaw03.TreeChecks", spec := "treeChecks", apart := false }
def TreeChecksSaid : Prop := treeChecksRow.holds Try.pinned (OpenSpec.ofChange treeChecksSpec)

/-- ITS FALSE NEIGHBOUR: 'it returns false'. Refute it at one input. -/
def treeChecksWrong : ChangeSpec := { name := "treeChecks", fn := fun _ => fun
  | [d] => { results := [.lit (.bool false)], args := [d] }
  | _ => none }
def TreeChecksWrongFalsely : Prop := treeChecksRow.holds Try.pinned (OpenSpec.ofChange treeChecksWrong)

/-- 'stopgatelaw03.TreePaths': WHATEVER THE INPUT: true; the input reads as it did. -/
def treePathsSpec : ChangeSpec := { name := "treePaths", fn := fun _ => fun
  | [d1, d2] => { results := [.lit (.bool true)], args := [d1, d2] }
  | _ => none }
def treePathsRow : OpenClaim := { program := "ytnodcekkbbmfnaa", sum := "a89f3233b859ac254db01469e4034be2043e0499e21cd63c7d749cc28b255772", func := "stopgate/stopgatelaw03.TreePaths", spec := "treePaths", apart := false }
def TreePathsSaid : Prop := treePathsRow.holds Try.pinned (OpenSpec.ofChange treePathsSpec)

/-- ITS FALSE NEIGHBOUR: 'it returns false'. Refute it at one input. -/
def treePathsWrong : ChangeSpec := { name := "treePaths", fn := fun _ => fun
  | [d1, d2] => { results := [.lit (.bool false)], args := [d1, d2] }
  | _ => none }
def TreePathsWrongFalsely : Prop := treePathsRow.holds Try.pinned (OpenSpec.ofChange treePathsWrong)

/-- 'stopgatelaw02.BandWidens': WHATEVER THE INPUT: true; the input reads as it did. -/
def bandWidensSpec : ChangeSpec := { name := "bandWidens", fn := fun _ => fun
  | [d1, d2, d3] => { results := [.lit (.bool true)], args := [d1, d2, d3] }
  | _ => none }
def bandWidensRow : OpenClaim := { program := "ytnodcekkbbmfnaa", sum := "a89f3233b859ac254db01469e4034be2043e0499e21cd63c7d749cc28b255772", func := "stopgate/stopgatelaw02.BandWidens", spec := "bandWidens", inPlace := ["math.Float64frombits", "math.Float64bits", "math.archFloor", "math.archTrunc"], apart := false }
def BandWidensSaid : Prop := bandWidensRow.holds Try.pinned (OpenSpec.ofChange bandWidensSpec)

/-- ITS FALSE NEIGHBOUR: 'it returns false'. Refute it at one input. -/
def bandWidensWrong : ChangeSpec := { name := "bandWidens", fn := fun _ => fun
  | [d1, d2, d3] => { results := [.lit (.bool false)], args := [d1, d2, d3] }
  | _ => none }
def BandWidensWrongFalsely : Prop := bandWidensRow.holds Try.pinned (OpenSpec.ofChange bandWidensWrong)

/-- 'stopgatelaw02.BandCollars': WHATEVER THE INPUT: true; the input reads as it did. -/
def bandCollarsSpec : ChangeSpec := { name := "bandCollars", fn := fun _ => fun
  | [d1, d2, d3] => { results := [.lit (.bool true)], args := [d1, d2, d3] }
  | _ => none }
def bandCollarsRow : OpenClaim := { program := "ytnodcekkbbmfnaa", sum := "a89f3233b859ac254db01469e4034be2043e0499e21cd63c7d749cc28b255772", func := "stopgate/stopgatelaw02.BandCollars", spec := "bandCollars", inPlace := ["math.Float64frombits", "math.Float64bits", "math.archFloor", "math.archTrunc"], apart := false }
def BandCollarsSaid : Prop := bandCollarsRow.holds Try.pinned (OpenSpec.ofChange bandCollarsSpec)

/-- ITS FALSE NEIGHBOUR: 'it returns false'. Refute it at one input. -/
def bandCollarsWrong : ChangeSpec := { name := "bandCollars", fn := fun _ => fun
  | [d1, d2, d3] => { results := [.lit (.bool false)], args := [d1, d2, d3] }
  | _ => none }
def BandCollarsWrongFalsely : Prop := bandCollarsRow.holds Try.pinned (OpenSpec.ofChange bandCollarsWrong)

/-- 'stopgatelaw02.BandSames': WHATEVER THE INPUT: true; the input reads as it did. -/
def bandSamesSpec : ChangeSpec := { name := "bandSames", fn := fun _ => fun
  | [d1, d2] => { results := [.lit (.bool true)], args := [d1, d2] }
  | _ => none }
def bandSamesRow : OpenClaim := { program := "ytnodcekkbbmfnaa", sum := "a89f3233b859ac254db01469e4034be2043e0499e21cd63c7d749cc28b255772", func := "stopgate/stopgatelaw02.BandSames", spec := "bandSames", inPlace := ["math.Float64frombits", "math.Float64bits", "math.archFloor", "math.archTrunc"], apart := false }
def BandSamesSaid : Prop := bandSamesRow.holds Try.pinned (OpenSpec.ofChange bandSamesSpec)

/-- ITS FALSE NEIGHBOUR: 'it returns false'. Refute it at one input. -/
def bandSamesWrong : ChangeSpec := { name := "bandSames", fn := fun _ => fun
  | [d1, d2] => { results := [.lit (.bool false)], args := [d1, d2] }
  | _ => none }
def BandSamesWrongFalsely : Prop := bandSamesRow.holds Try.pinned (OpenSpec.ofChange bandSamesWrong)

/-- 'stopgatelaw04.CreditRights': WHATEVER THE INPUT: true; the input reads as it did. -/
def creditRightsSpec : ChangeSpec := { name := "creditRights", fn := fun _ => fun
  | [d] => { results := [.lit (.bool true)], args := [d] }
  | _ => none }
def creditRightsRow : OpenClaim := { program := "ytnodcekkbbmfnaa", sum := "a89f3233b859ac254db01469e4034be2043e0499e21cd63c7d749cc28b255772", func := "stopgate/stopgatelaw04.CreditRights", spec := "creditRights", unfollowed := true, recurses := true, apart := false }
def CreditRightsSaid : Prop := creditRightsRow.holds Try.pinned (OpenSpec.ofChange creditRightsSpec)

/-- ITS FALSE NEIGHBOUR: 'it returns false'. Refute it at one input. -/
def creditRightsWrong : ChangeSpec := { name := "creditRights", fn := fun _ => fun
  | [d] => { results := [.lit (.bool false)], args := [d] }
  | _ => none }
def CreditRightsWrongFalsely : Prop := creditRightsRow.holds Try.pinned (OpenSpec.ofChange creditRightsWrong)

/-- 'stopgatelaw04.CreditEdges': WHATEVER THE INPUT: true; the input reads as it did. -/
def creditEdgesSpec : ChangeSpec := { name := "creditEdges", fn := fun _ => fun
  | [d1, d2, d3] => { results := [.lit (.bool true)], args := [d1, d2, d3] }
  | _ => none }
def creditEdgesRow : OpenClaim := { program := "ytnodcekkbbmfnaa", sum := "a89f3233b859ac254db01469e4034be2043e0499e21cd63c7d749cc28b255772", func := "stopgate/stopgatelaw04.CreditEdges", spec := "creditEdges", unfollowed := true, recurses := true, apart := false }
def CreditEdgesSaid : Prop := creditEdgesRow.holds Try.pinned (OpenSpec.ofChange creditEdgesSpec)

/-- ITS FALSE NEIGHBOUR: 'it returns false'. Refute it at one input. -/
def creditEdgesWrong : ChangeSpec := { name := "creditEdges", fn := fun _ => fun
  | [d1, d2, d3] => { results := [.lit (.bool false)], args := [d1, d2, d3] }
  | _ => none }
def CreditEdgesWrongFalsely : Prop := creditEdgesRow.holds Try.pinned (OpenSpec.ofChange creditEdgesWrong)

/-- 'stopgatelaw04.CreditActs': WHATEVER THE INPUT: true; the input reads as it did. -/
def creditActsSpec : ChangeSpec := { name := "creditActs", fn := fun _ => fun
  | [d1, d2] => { results := [.lit (.bool true)], args := [d1, d2] }
  | _ => none }
def creditActsRow : OpenClaim := { program := "ytnodcekkbbmfnaa", sum := "a89f3233b859ac254db01469e4034be2043e0499e21cd63c7d749cc28b255772", func := "stopgate/stopgatelaw04.CreditActs", spec := "creditActs", unfollowed := true, recurses := true, apart := false }
def CreditActsSaid : Prop := creditActsRow.holds Try.pinned (OpenSpec.ofChange creditActsSpec)

/-- ITS FALSE NEIGHBOUR: 'it returns false'. Refute it at one input. -/
def creditActsWrong : ChangeSpec := { name := "creditActs", fn := fun _ => fun
  | [d1, d2] => { results := [.lit (.bool false)], args := [d1, d2] }
  | _ => none }
def CreditActsWrongFalsely : Prop := creditActsRow.holds Try.pinned (OpenSpec.ofChange creditActsWrong)

/-- 'stopgatelaw04.CreditBack': WHATEVER THE INPUT: true; the input reads as it did. -/
def creditBackSpec : ChangeSpec := { name := "creditBack", fn := fun _ => fun
  | [d1, d2, d3] => { results := [.lit (.bool true)], args := [d1, d2, d3] }
  | _ => none }
def creditBackRow : OpenClaim := { program := "ytnodcekkbbmfnaa", sum := "a89f3233b859ac254db01469e4034be2043e0499e21cd63c7d749cc28b255772", func := "stopgate/stopgatelaw04.CreditBack", spec := "creditBack", unfollowed := true, recurses := true, apart := false }
def CreditBackSaid : Prop := creditBackRow.holds Try.pinned (OpenSpec.ofChange creditBackSpec)

/-- ITS FALSE NEIGHBOUR: 'it returns false'. Refute it at one input. -/
def creditBackWrong : ChangeSpec := { name := "creditBack", fn := fun _ => fun
  | [d1, d2, d3] => { results := [.lit (.bool false)], args := [d1, d2, d3] }
  | _ => none }
def CreditBackWrongFalsely : Prop := creditBackRow.holds Try.pinned (OpenSpec.ofChange creditBackWrong)

/- THE SECOND FORM. 'bulk': how many values and letters a reading holds, each counted each time it is reached (what is shared counts as often as it is met; a slice's spare places count too). A statement '..UptoSaid' is the law's where the arguments, and the package variables that the reading takes, are together of bulk at most 1048576: NARROWER than '..Said'. Prove '..Said' where nothing that the law and all that it calls make is longer than what came in: it says more and counts as full. Else prove '..UptoSaid'. A law counts once. -/
mutual
def uptoBulk {H : Type} : DataW H → Nat
  | .lit (.string bytes) => bytes.length + 1
  | .lit _ => 1
  | .nil => 1
  | .ptr d => uptoBulk d + 1
  | .slice elems spare => uptoBulkAll elems + uptoBulkAll spare + 1
  | .agg parts => uptoBulkAll parts + 1
  | .iface _ d => uptoBulk d + 1
  | .map entries => uptoBulkEntries entries + 1
  | .held _ => 1
def uptoBulkAll {H : Type} : List (DataW H) → Nat
  | [] => 0
  | d :: r => uptoBulk d + uptoBulkAll r
def uptoBulkEntries {H : Type} : List (Lit × DataW H) → Nat
  | [] => 0
  | x :: r => uptoBulkEntry x + uptoBulkEntries r
def uptoBulkEntry {H : Type} : Lit × DataW H → Nat
  | (.string bytes, d) => bytes.length + uptoBulk d + 1
  | (_, d) => uptoBulk d + 1
 end
def uptoSmall : (H : Type) → List (DataW H) → Bool := fun _ ds => decide (uptoBulkAll ds ≤ 1048576)
def OpenSpec.upto (s : _root_.Go.ChangeSpec) : _root_.Go.OpenSpec := { _root_.Go.OpenSpec.ofChange s with cond := some uptoSmall }

/-- 'stopgatelaw01.FixedProducts', WHERE WHAT IT READS IS OF BULK AT MOST 1048576: true; the input reads as it did. -/
def fixedProductsUptoRow : OpenClaim := { program := "ytnodcekkbbmfnaa", sum := "a89f3233b859ac254db01469e4034be2043e0499e21cd63c7d749cc28b255772", func := "stopgate/stopgatelaw01.FixedProducts", spec := "fixedProducts", apart := false, narrowed := true }
def FixedProductsUptoSaid : Prop := fixedProductsUptoRow.holds Try.pinned (OpenSpec.upto fixedProductsSpec)

/-- 'stopgatelaw01.FixedParts', WHERE WHAT IT READS IS OF BULK AT MOST 1048576: true; the input reads as it did. -/
def fixedPartsUptoRow : OpenClaim := { program := "ytnodcekkbbmfnaa", sum := "a89f3233b859ac254db01469e4034be2043e0499e21cd63c7d749cc28b255772", func := "stopgate/stopgatelaw01.FixedParts", spec := "fixedParts", apart := false, narrowed := true }
def FixedPartsUptoSaid : Prop := fixedPartsUptoRow.holds Try.pinned (OpenSpec.upto fixedPartsSpec)

/-- 'stopgatelaw01.FixedSums', WHERE WHAT IT READS IS OF BULK AT MOST 1048576: true; the input reads as it did. -/
def fixedSumsUptoRow : OpenClaim := { program := "ytnodcekkbbmfnaa", sum := "a89f3233b859ac254db01469e4034be2043e0499e21cd63c7d749cc28b255772", func := "stopgate/stopgatelaw01.FixedSums", spec := "fixedSums", apart := false, narrowed := true }
def FixedSumsUptoSaid : Prop := fixedSumsUptoRow.holds Try.pinned (OpenSpec.upto fixedSumsSpec)

/-- 'stopgatelaw03.TreeChecks', WHERE WHAT IT READS IS OF BULK AT MOST 1048576: true; the input reads as it did. -/
def treeChecksUptoRow : OpenClaim := { program := "ytnodcekkbbmfnaa", sum := "a89f3233b859ac254db01469e4034be2043e0499e21cd63c7d749cc28b255772", func := "stopgate/stopgatelaw03.TreeChecks", spec := "treeChecks", apart := false, narrowed := true }
def TreeChecksUptoSaid : Prop := treeChecksUptoRow.holds Try.pinned (OpenSpec.upto treeChecksSpec)

/-- 'stopgatelaw03.TreePaths', WHERE WHAT IT READS IS OF BULK AT MOST 1048576: true; the input reads as it did. -/
def treePathsUptoRow : OpenClaim := { program := "ytnodcekkbbmfnaa", sum := "a89f3233b859ac254db01469e4034be2043e0499e21cd63c7d749cc28b255772", func := "stopgate/stopgatelaw03.TreePaths", spec := "treePaths", apart := false, narrowed := true }
def TreePathsUptoSaid : Prop := treePathsUptoRow.holds Try.pinned (OpenSpec.upto treePathsSpec)

/-- 'stopgatelaw02.BandWidens', WHERE WHAT IT READS IS OF BULK AT MOST 1048576: true; the input reads as it did. -/
def bandWidensUptoRow : OpenClaim := { program := "ytnodcekkbbmfnaa", sum := "a89f3233b859ac254db01469e4034be2043e0499e21cd63c7d749cc28b255772", func := "stopgate/stopgatelaw02.BandWidens", spec := "bandWidens", inPlace := ["math.Float64frombits", "math.Float64bits", "math.archFloor", "math.archTrunc"], apart := false, narrowed := true }
def BandWidensUptoSaid : Prop := bandWidensUptoRow.holds Try.pinned (OpenSpec.upto bandWidensSpec)

/-- 'stopgatelaw02.BandCollars', WHERE WHAT IT READS IS OF BULK AT MOST 1048576: true; the input reads as it did. -/
def bandCollarsUptoRow : OpenClaim := { program := "ytnodcekkbbmfnaa", sum := "a89f3233b859ac254db01469e4034be2043e0499e21cd63c7d749cc28b255772", func := "stopgate/stopgatelaw02.BandCollars", spec := "bandCollars", inPlace := ["math.Float64frombits", "math.Float64bits", "math.archFloor", "math.archTrunc"], apart := false, narrowed := true }
def BandCollarsUptoSaid : Prop := bandCollarsUptoRow.holds Try.pinned (OpenSpec.upto bandCollarsSpec)

/-- 'stopgatelaw02.BandSames', WHERE WHAT IT READS IS OF BULK AT MOST 1048576: true; the input reads as it did. -/
def bandSamesUptoRow : OpenClaim := { program := "ytnodcekkbbmfnaa", sum := "a89f3233b859ac254db01469e4034be2043e0499e21cd63c7d749cc28b255772", func := "stopgate/stopgatelaw02.BandSames", spec := "bandSames", inPlace := ["math.Float64frombits", "math.Float64bits", "math.archFloor", "math.archTrunc"], apart := false, narrowed := true }
def BandSamesUptoSaid : Prop := bandSamesUptoRow.holds Try.pinned (OpenSpec.upto bandSamesSpec)

/-- 'stopgatelaw04.CreditRights', WHERE WHAT IT READS IS OF BULK AT MOST 1048576: true; the input reads as it did. -/
def creditRightsUptoRow : OpenClaim := { program := "ytnodcekkbbmfnaa", sum := "a89f3233b859ac254db01469e4034be2043e0499e21cd63c7d749cc28b255772", func := "stopgate/stopgatelaw04.CreditRights", spec := "creditRights", unfollowed := true, recurses := true, apart := false, narrowed := true }
def CreditRightsUptoSaid : Prop := creditRightsUptoRow.holds Try.pinned (OpenSpec.upto creditRightsSpec)

/-- 'stopgatelaw04.CreditEdges', WHERE WHAT IT READS IS OF BULK AT MOST 1048576: true; the input reads as it did. -/
def creditEdgesUptoRow : OpenClaim := { program := "ytnodcekkbbmfnaa", sum := "a89f3233b859ac254db01469e4034be2043e0499e21cd63c7d749cc28b255772", func := "stopgate/stopgatelaw04.CreditEdges", spec := "creditEdges", unfollowed := true, recurses := true, apart := false, narrowed := true }
def CreditEdgesUptoSaid : Prop := creditEdgesUptoRow.holds Try.pinned (OpenSpec.upto creditEdgesSpec)

/-- 'stopgatelaw04.CreditActs', WHERE WHAT IT READS IS OF BULK AT MOST 1048576: true; the input reads as it did. -/
def creditActsUptoRow : OpenClaim := { program := "ytnodcekkbbmfnaa", sum := "a89f3233b859ac254db01469e4034be2043e0499e21cd63c7d749cc28b255772", func := "stopgate/stopgatelaw04.CreditActs", spec := "creditActs", unfollowed := true, recurses := true, apart := false, narrowed := true }
def CreditActsUptoSaid : Prop := creditActsUptoRow.holds Try.pinned (OpenSpec.upto creditActsSpec)

/-- 'stopgatelaw04.CreditBack', WHERE WHAT IT READS IS OF BULK AT MOST 1048576: true; the input reads as it did. -/
def creditBackUptoRow : OpenClaim := { program := "ytnodcekkbbmfnaa", sum := "a89f3233b859ac254db01469e4034be2043e0499e21cd63c7d749cc28b255772", func := "stopgate/stopgatelaw04.CreditBack", spec := "creditBack", unfollowed := true, recurses := true, apart := false, narrowed := true }
def CreditBackUptoSaid : Prop := creditBackUptoRow.holds Try.pinned (OpenSpec.upto creditBackSpec)

end Rows
end Go.Proofs.Ytnodcekkbbmfnaa
