/- The law SlotsLays: its arguments opened. -/
import Derived.Test.YtbkcfadbjebbdaaSlotsLaysWalk
import Derived.Test.YtbkcfadbjebbdaaOpenCe
namespace Go.Proofs.Ytbkcfadbjebbdaa
open Go.RowKit Go.ChangeShapes Go.WideShapes Go.ChangeAt
set_option linter.unusedVariables false
set_option maxRecDepth 100000
theorem walk_SlotsLays {H : Type} {enc : TypeId × Value → H} {w : World} (v : Value) {d : DataW H} {p : List MemPlace} (hv : Value.okWide Try.prog w .any 0 22 v) (h : DataW.Trod enc Try.prog w 0 (fun _ => true) true 22 v d p) :
    Calls Try.prog 3 #[v] w fun e w' => e = .returned (.bool true) ∧ Gr w w' := by
  obtain ⟨A, cap, xs, rfl, g1, g2, g3, g4⟩ := open_ces_list Try.underlying22 Try.underlying42 (by kernel_rfl) (by kernel_rfl) Try.underlying9 Try.underlying9 Try.underlying40 Try.underlying40 hv h
  exact walk_SlotsLays_ A cap xs g1 g2 g3 w g4
end Go.Proofs.Ytbkcfadbjebbdaa
