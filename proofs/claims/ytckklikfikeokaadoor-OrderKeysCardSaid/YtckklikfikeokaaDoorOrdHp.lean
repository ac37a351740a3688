/- Texts compared, a beginning asked for. -/
import Derived.Test.YtckklikfikeokaaDoorOrdW1
import Derived.Test.YtckklikfikeokaaDoorShelf
namespace Go.Proofs.YtckklikfikeokaaDoor
open Go.RowKit
set_option linter.unusedVariables false
set_option linter.unusedSimpArgs false
theorem bl_of (x y : List UInt8) : Op.bytesLess (B x).toList (B y).toList = decide (x < y) := by
  rw [Go.Proofs.bytesLess_eq, ByteArray.toList_eq, ByteArray.toList_eq]; rfl
theorem or_hasPrefix (x y : List UInt8) (v : Bool) (hv : v = true ↔ y <+: x) (w : World) : Calls Tryd.prog 13 #[.string (B x), .string (B y)] w fun r w' => r = .returned (.bool v) ∧ w = w' := by
  refine (Tryd.strings_HasPrefix (B x) (B y) w).mono ?_
  rintro e w' ⟨rfl, rfl⟩
  refine ⟨ret_bool ?_, rfl⟩
  unfold Lib.hasPrefix
  rw [B_list, B_list, Bool.eq_iff_iff, hv, List.isPrefixOf_iff_prefix]
end Go.Proofs.YtckklikfikeokaaDoor
