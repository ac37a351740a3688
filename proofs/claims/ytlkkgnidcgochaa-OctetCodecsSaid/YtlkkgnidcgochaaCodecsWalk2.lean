/- The law OctetCodecs: its arguments opened. -/
import Derived.Test.YtlkkgnidcgochaaCodecsWalk
import Derived.Test.YtlkkgnidcgochaaOpen
namespace Go.Proofs.Ytlkkgnidcgochaa
open Go.RowKit Go.ChangeShapes Go.WideShapes Go.ChangeAt
set_option linter.unusedVariables false
set_option maxRecDepth 100000
theorem walk_OctetCodecs {H : Type} {enc : TypeId × Value → H} {w : World} (v : Value) {d : DataW H} {p : List MemPlace} (hv : Value.okWide Try.prog w .any 0 69 v) (h : DataW.Trod enc Try.prog w 0 (fun _ => true) true 69 v d p)
    (v2 : Value) {d2 : DataW H} {p2 : List MemPlace} (hv2 : Value.okWide Try.prog w .any 0 68 v2) (h2 : DataW.Trod enc Try.prog w 0 (fun _ => true) true 68 v2 d2 p2)
    (s : ByteArray) (hs : s.size ≤ maxLen) (m : Int) (wm : (Lit.int .i64 m).wf = true) :
    Calls Try.prog 12 #[v, v2, .string s, .int .i64 m] w fun e w' => e = .returned (.bool true) ∧ Gr w w' := by
  obtain ⟨A, cap, ns, rfl, g1, g2, g3, g4⟩ := open_u16s_list Try.underlying69 Try.underlying42 (by kernel_rfl) hv h
  obtain ⟨A2, cap2, xs, rfl, e1, e2, e3, e4⟩ := open_strs_list Try.underlying68 Try.underlying9 (by kernel_rfl) hv2 h2
  exact walk_OctetCodecs_ A cap ns g1 g2 g3 A2 cap2 xs e1 e2 e3 s hs m (I64.of wm) w g4 e4
end Go.Proofs.Ytlkkgnidcgochaa
