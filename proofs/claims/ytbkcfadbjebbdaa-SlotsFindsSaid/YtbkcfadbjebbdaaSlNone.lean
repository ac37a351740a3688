/- Layer 6: a shape that is none (printed by slfinds_gen.py). -/
import Derived.Test.YtbkcfadbjebbdaaSl2
namespace Go.Proofs.Ytbkcfadbjebbdaa
open Go.RowKit
set_option linter.unusedVariables false
set_option linter.unusedSimpArgs false
set_option maxRecDepth 100000
set_option maxHeartbeats 2000000
theorem no_eq1 (w : World) : (binOp .eql 89 .nilFunc .nilFunc).run Try.prog w = .ok (.bool true) w := by kernel_rfl
theorem no_none (w : World) : Calls Try.prog 115 #[.agg #[.nilFunc, .nilFunc, .nilFunc, .nilFunc]] w fun r w' => r = .returned (.bool true) ∧ Gr w w' := by
  have q1 := no_eq1
  have HW : Hid (Gr w (w.alloc (.cells #[.nilFunc, .nilFunc, .nilFunc, .nilFunc] 93))) := (Gr.refl w).alloc _
  go_enter Try.func115, Try.ntmps115
  go_wp2
  go_ret
  exact ⟨rfl, HW.out⟩
theorem no_body (A : Option Addr) (w : World) : Calls Try.prog 41 #[.agg #[.nilFunc, .nilFunc, .nilFunc, .nilFunc], .slice A 1 1] w fun r w' => r = .returned (.tuple #[.string .empty, .int .i64 2]) ∧ Gr w w' := by
  have cN := fun w1 => Lib.hid (no_none w1)
  have HW : Hid (Gr w (w.alloc (.cells #[.nilFunc, .nilFunc, .nilFunc, .nilFunc] 93))) := (Gr.refl w).alloc _
  go_enter Try.func41, Try.ntmps41
  go_wp2_with (go_at_call 115; refine (cN _).out.mono ?_; clear cN; rintro r v1 ⟨rfl, hg⟩; have HG := Lib.hid (HW.out.trans hg); clear hg)
  go_ret2
  exact ⟨rfl, HG.out⟩
theorem no_read  (w : World) : Calls Try.prog 42 #[.agg #[.nilFunc, .nilFunc, .nilFunc, .nilFunc], .string .empty, .int .i64 0] w fun r w' => r = .returned (.tuple #[.slice none 0 0, .int .i64 2]) ∧ Gr w w' := by
  have cN := fun w1 => Lib.hid (no_none w1)
  have HW : Hid (Gr w (w.alloc (.cells #[.nilFunc, .nilFunc, .nilFunc, .nilFunc] 93))) := (Gr.refl w).alloc _
  go_enter Try.func42, Try.ntmps42
  go_wp2_with (go_at_call 115; refine (cN _).out.mono ?_; clear cN; rintro r v1 ⟨rfl, hg⟩; have HG := Lib.hid (HW.out.trans hg); clear hg)
  go_ret2
  exact ⟨rfl, HG.out⟩
theorem no_find (A : Option Addr) (key : ByteArray) (w : World) : Calls Try.prog 43 #[.agg #[.nilFunc, .nilFunc, .nilFunc, .nilFunc], .slice A 1 1, .string key] w fun r w' => r = .returned (.tuple #[.int .i64 0, .bool false]) ∧ Gr w w' := by
  have cN := fun w1 => Lib.hid (no_none w1)
  have HW : Hid (Gr w (((w.alloc (.cells #[.nilFunc, .nilFunc, .nilFunc, .nilFunc] 93)).alloc (.cells #[.slice A 1 1] 95)).alloc (.cells #[.string key] 9))) := (((Gr.refl w).alloc _).alloc _).alloc _
  go_enter Try.func43, Try.ntmps43
  go_wp2_with (go_at_call 115; refine (cN _).out.mono ?_; clear cN; rintro r v1 ⟨rfl, hg⟩; have HG := Lib.hid (HW.out.trans hg); clear hg)
  go_ret2
  exact ⟨rfl, HG.out⟩
theorem no_size  (w : World) : Calls Try.prog 44 #[.agg #[.nilFunc, .nilFunc, .nilFunc, .nilFunc], .int .i64 1] w fun r w' => r = .returned (.int .i64 0) ∧ Gr w w' := by
  have cN := fun w1 => Lib.hid (no_none w1)
  have HW : Hid (Gr w (w.alloc (.cells #[.nilFunc, .nilFunc, .nilFunc, .nilFunc] 93))) := (Gr.refl w).alloc _
  go_enter Try.func44, Try.ntmps44
  go_wp2_with (go_at_call 115; refine (cN _).out.mono ?_; clear cN; rintro r v1 ⟨rfl, hg⟩; have HG := Lib.hid (HW.out.trans hg); clear hg)
  go_ret
  exact ⟨rfl, HG.out⟩
end Go.Proofs.Ytbkcfadbjebbdaa
