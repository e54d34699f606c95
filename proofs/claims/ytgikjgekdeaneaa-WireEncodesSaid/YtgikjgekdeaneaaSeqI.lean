/- A region that draws its order, walked once: operations that are wanted if p. -/
import Derived.Test.YtgikjgekdeaneaaSeqB
namespace Go.Proofs.Ytgikjgekdeaneaa.Seq
open Go.Proofs.Ytgikjgekdeaneaa.Cert
section
variable {P : Program} {ops : Array Oper} {Q : Exit → Act → World → Prop} {S : World → Prop} {ch : List Nat}
variable {i : Nat} {is : List Nat} {a a' : Act} {w : World} {v : Value} {d : Option Tmp} {op : Op} {t : TypeId} {pos : String} {aft : Array Edge} {g : Option (Nat × Bool)}
/-- It only reads, and is wanted if p. -/
theorem seq_if {p : Bool} (ho : ops[i]? = some ⟨d, op, t, pos, aft, g⟩) (hw : Region.wanted ⟨d, op, t, pos, aft, g⟩ (yielded ops a.tmps) = p)
    (hy : p = true → ∀ w, S w → (execOp a.eval ⟨d, op, t, pos, aft, g⟩).run P w = .ok (.value v) w) (ha : a.put d (sl p v undef) = a') (hr : wpSeq P ops Q S ch is a' w) : wpSeq P ops Q S ch (i :: is) a w := by
  cases p with
  | true => exact seq_val ho hw (hy rfl) ha hr
  | false => exact seq_off ho hw ha hr
/-- A call that may turn the world, and is wanted if p. -/
theorem seq_if_op {p : Bool} (ho : ops[i]? = some ⟨d, op, t, pos, aft, g⟩) (hc : ch.contains i = true) (hw : Region.wanted ⟨d, op, t, pos, aft, g⟩ (yielded ops a.tmps) = p) (hS : S w)
    (h : p = true → ∀ K : Act → World → Prop, (∀ w', S w' → K (a.put d v) w') → Oper.wp P ⟨d, op, t, pos, aft, g⟩ a w K Q) (ha : a.put d (sl p v undef) = a')
    (hr : ∀ w', S w' → wpSeq P ops Q S ch is a' w') : wpSeq P ops Q S ch (i :: is) a w := by
  cases p with
  | true => exact seq_op ho hc hw (fun K hK => h rfl K (fun w' hS' => hK _ _ hS' (by rw [show a.put d v = a' from ha]; exact hr w' hS')))
  | false => exact seq_off ho hw ha (hr w hS)
end
end Go.Proofs.Ytgikjgekdeaneaa.Seq
