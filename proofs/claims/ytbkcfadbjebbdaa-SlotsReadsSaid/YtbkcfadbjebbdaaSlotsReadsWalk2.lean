/- The law SlotsReads: its arguments opened. -/
import Derived.Test.YtbkcfadbjebbdaaSlotsReadsWalk
namespace Go.Proofs.Ytbkcfadbjebbdaa
open Go.RowKit
set_option linter.unusedVariables false
theorem walk_SlotsReads {w : World} (body : ByteArray) (hk : body.size ≤ maxLen) (n : Int) (wn : (Lit.int .i64 n).wf = true) (key : ByteArray) (hk2 : key.size ≤ maxLen) :
    Calls Try.prog 8 #[.string body, .int .i64 n, .string key] w fun e w' => e = .returned (.bool true) ∧ Gr w w' := by
  obtain ⟨D, rfl⟩ := B_of body
  rw [B_size] at hk
  exact walk_SlotsReads_ D hk n (I64.of wn) key w
end Go.Proofs.Ytbkcfadbjebbdaa
