/- The law LeaseCompares: its arguments opened. -/
import Derived.Test.YtmclhhlekblkeaaLeaseComparesWalk
import Derived.Test.YtmclhhlekblkeaaOpenKey
namespace Go.Proofs.Ytmclhhlekblkeaa
open Go.RowKit Go.ChangeShapes Go.WideShapes Go.ChangeAt
set_option linter.unusedVariables false
set_option maxRecDepth 100000
theorem walk_LeaseCompares {H : Type} {enc : TypeId × Value → H} {w : World} (v : Value) {d : DataW H} {p : List MemPlace} (hv : Value.okWide Try.prog w .any 0 24 v) (h : DataW.Trod enc Try.prog w 0 (fun _ => true) true 24 v d p)
    (v2 : Value) {d2 : DataW H} {p2 : List MemPlace} (hv2 : Value.okWide Try.prog w .any 0 24 v2) (h2 : DataW.Trod enc Try.prog w 0 (fun _ => true) true 24 v2 d2 p2) :
    Calls Try.prog 3 #[v, v2] w fun e w' => e = .returned (.bool true) ∧ Gr w w' := by
  obtain ⟨a0, a1, rfl, _, _⟩ := open_key hv h
  obtain ⟨b0, b1, rfl, _, _⟩ := open_key hv2 h2
  exact walk_LeaseCompares_ a0 b0 a1 b1 w
end Go.Proofs.Ytmclhhlekblkeaa
