/- Wire: a byte that may be. -/
import Derived.Test.YtgikjgekdeaneaaWireP
namespace Go.Proofs.Ytgikjgekdeaneaa.Wire
open Go.RowKit
theorem wf_u8 {x : Int} (h : (Lit.int .u8 x).wf = true) : 0 ≤ x ∧ x < 256 := by
  simp [Lit.wf, IntKind.min, IntKind.max, IntKind.bits, IntKind.signed] at h
  omega
end Go.Proofs.Ytgikjgekdeaneaa.Wire
