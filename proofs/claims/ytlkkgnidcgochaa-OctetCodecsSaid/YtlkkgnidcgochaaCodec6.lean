/- Layer 3: a codec that is none. -/
import Derived.Test.YtlkkgnidcgochaaCodec2
namespace Go.Proofs.Ytlkkgnidcgochaa
open Go.RowKit
set_option linter.unusedVariables false
set_option linter.unusedSimpArgs false
set_option maxRecDepth 100000
set_option maxHeartbeats 1000000
theorem non_eq1 (w : World) : (binOp .eql 50 .nilFunc .nilFunc).run Try.prog w = .ok (.bool true) w := by kernel_rfl
theorem non_eq2 (w : World) : (binOp .eql 93 .nilFunc .nilFunc).run Try.prog w = .ok (.bool true) w := by kernel_rfl
theorem non_bytes (x : Int) (w : World) :
    Calls Try.prog 59 #[.agg #[.nilFunc, .nilFunc], .int .i64 x] w fun r w' => r = .returned (.string ⟨#[]⟩) ∧ Gr w w' := by
  have hn1 := non_eq1
  go_enter Try.func59, Try.ntmps59
  go_wp2
  go_ret
  exact ⟨rfl, ((Gr.refl w).alloc _)⟩
theorem non_read (s : ByteArray) (w : World) :
    Calls Try.prog 57 #[.agg #[.nilFunc, .nilFunc], .string s] w fun r w' => r = .returned (.tuple #[.int .i64 0, .int .i64 2]) ∧ Gr w w' := by
  have hn1 := non_eq2
  go_enter Try.func57, Try.ntmps57
  go_wp2
  go_ret2
  exact ⟨rfl, ((Gr.refl w).alloc _)⟩
theorem non_readlist (s : ByteArray) (m : Int) (w : World) :
    Calls Try.prog 58 #[.agg #[.nilFunc, .nilFunc], .string s, .int .i64 m] w fun r w' => r = .returned (.tuple #[.slice none 0 0, .int .i64 2]) ∧ Gr w w' := by
  have hn1 := non_eq2
  go_enter Try.func58, Try.ntmps58
  go_wp2
  go_ret2
  exact ⟨rfl, ((Gr.refl w).alloc _)⟩
end Go.Proofs.Ytlkkgnidcgochaa
