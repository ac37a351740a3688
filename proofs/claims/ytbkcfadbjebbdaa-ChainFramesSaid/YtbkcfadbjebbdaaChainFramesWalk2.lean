/- The law ChainFrames: its arguments opened. -/
import Derived.Test.YtbkcfadbjebbdaaChainFramesWalk
import Derived.Test.YtbkcfadbjebbdaaOpen
namespace Go.Proofs.Ytbkcfadbjebbdaa
open Go.RowKit Go.ChangeShapes Go.WideShapes Go.ChangeAt
set_option linter.unusedVariables false
set_option maxRecDepth 100000
theorem walk_ChainFrames {H : Type} {enc : TypeId × Value → H} {w : World} (v : Value) {d : DataW H} {p : List MemPlace} (hv : Value.okWide Try.prog w .any 0 54 v) (h : DataW.Trod enc Try.prog w 0 (fun _ => true) true 54 v d p)
    (a : Int) (wa : (Lit.int .u64 a).wf = true) (s : ByteArray) (hs : s.size ≤ maxLen) (m : Int) (wm : (Lit.int .i64 m).wf = true) (b : Int) (wb : (Lit.int .u8 b).wf = true) :
    Calls Try.prog 4 #[v, .int .u64 a, .string s, .int .i64 m, .int .u8 b] w fun e w' => e = .returned (.bool true) ∧ Gr w w' := by
  obtain ⟨A, cap, ids, rfl, g1, g2, g3, g4⟩ := open_u32s_list Try.underlying54 Try.underlying40 (by kernel_rfl) hv h
  obtain ⟨tx, rfl, htx⟩ := nat_u64 wa
  obtain ⟨more, rfl, hmore⟩ := nat_u8 wb
  exact walk_ChainFrames_ A cap ids g1 g2 g3 tx htx s hs m (I64.of wm) more hmore w g4
end Go.Proofs.Ytbkcfadbjebbdaa
