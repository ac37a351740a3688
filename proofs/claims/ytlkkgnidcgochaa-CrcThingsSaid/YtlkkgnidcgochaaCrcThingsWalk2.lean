/- The law CrcThings: its arguments opened. -/
import Derived.Test.YtlkkgnidcgochaaCrcThingsWalk
import Derived.Test.YtlkkgnidcgochaaOpen
namespace Go.Proofs.Ytlkkgnidcgochaa
open Go.RowKit Go.ChangeShapes Go.WideShapes Go.ChangeAt
set_option linter.unusedVariables false
set_option maxRecDepth 100000
theorem walk_CrcThings {H : Type} {enc : TypeId × Value → H} {w : World} (v : Value) {d : DataW H} {p : List MemPlace} (hv : Value.okWide Try.prog w .any 0 68 v) (h : DataW.Trod enc Try.prog w 0 (fun _ => true) true 68 v d p)
    (v2 : Value) {d2 : DataW H} {p2 : List MemPlace} (hv2 : Value.okWide Try.prog w .any 0 69 v2) (h2 : DataW.Trod enc Try.prog w 0 (fun _ => true) true 69 v2 d2 p2) :
    Calls Try.prog 11 #[v, v2] w fun e w' => e = .returned (.bool true) ∧ Gr w w' := by
  obtain ⟨A, cap, xs, rfl, e1, e2, e3, e4⟩ := open_strs_list Try.underlying68 Try.underlying9 (by kernel_rfl) hv h
  obtain ⟨A2, cap2, ns, rfl, g1, g2, g3, g4⟩ := open_u16s_list Try.underlying69 Try.underlying42 (by kernel_rfl) hv2 h2
  exact walk_CrcThings_ A cap xs e1 e2 e3 A2 cap2 ns g1 g2 g3 w e4 g4
end Go.Proofs.Ytlkkgnidcgochaa
