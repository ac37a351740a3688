/- The law SlotsBack: its arguments opened. -/
import Derived.Test.YtbkcfadbjebbdaaSlotsBackWalk
import Derived.Test.YtbkcfadbjebbdaaOpenCe
namespace Go.Proofs.Ytbkcfadbjebbdaa
open Go.RowKit Go.ChangeShapes Go.WideShapes Go.ChangeAt
set_option linter.unusedVariables false
set_option maxRecDepth 100000
theorem walk_SlotsBack {H : Type} {enc : TypeId × Value → H} {w : World} (v : Value) {d : DataW H} {p : List MemPlace} (hv : Value.okWide Try.prog w .any 0 22 v) (h : DataW.Trod enc Try.prog w 0 (fun _ => true) true 22 v d p) (body : ByteArray) (hk : body.size ≤ maxLen) (n : Int) (wn : (Lit.int .i64 n).wf = true) :
    Calls Try.prog 5 #[v, .string body, .int .i64 n] w fun e w' => e = .returned (.bool true) ∧ Gr w w' := by
  obtain ⟨A, cap, xs, rfl, g1, g2, g3, g4⟩ := open_ces_list Try.underlying22 Try.underlying42 (by kernel_rfl) (by kernel_rfl) Try.underlying9 Try.underlying9 Try.underlying40 Try.underlying40 hv h
  obtain ⟨D, rfl⟩ := B_of body
  rw [B_size] at hk
  exact walk_SlotsBack_ A cap xs g1 g2 g3 D hk n (I64.of wn) w g4
end Go.Proofs.Ytbkcfadbjebbdaa
