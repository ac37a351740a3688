/- The law SlotsFinds: its arguments opened. -/
import Derived.Test.YtbkcfadbjebbdaaSlotsFindsWalk
import Derived.Test.YtbkcfadbjebbdaaOpenCe
namespace Go.Proofs.Ytbkcfadbjebbdaa
open Go.RowKit Go.ChangeShapes Go.WideShapes Go.ChangeAt
set_option linter.unusedVariables false
set_option maxRecDepth 100000
theorem walk_SlotsFinds {H : Type} {enc : TypeId × Value → H} {w : World} (v : Value) {d : DataW H} {p : List MemPlace} (hv : Value.okWide Try.prog w .any 0 22 v) (h : DataW.Trod enc Try.prog w 0 (fun _ => true) true 22 v d p) (key : ByteArray) (hk : key.size ≤ maxLen) :
    Calls Try.prog 7 #[v, .string key] w fun e w' => e = .returned (.bool true) ∧ Gr w w' := by
  obtain ⟨A, cap, xs, rfl, g1, g2, g3, g4⟩ := open_ces_list Try.underlying22 Try.underlying42 (by kernel_rfl) (by kernel_rfl) Try.underlying9 Try.underlying9 Try.underlying40 Try.underlying40 hv h
  exact walk_SlotsFinds_ A cap xs g1 g2 g3 key w g4
end Go.Proofs.Ytbkcfadbjebbdaa
