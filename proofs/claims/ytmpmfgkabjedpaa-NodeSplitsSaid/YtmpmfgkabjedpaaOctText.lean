/- Layer 3: the program's texts, read and written. -/
import Derived.Test.YtmpmfgkabjedpaaOctNum
namespace Go.Proofs.Ytmpmfgkabjedpaa
open Go.RowKit
set_option linter.unusedVariables false
set_option linter.unusedSimpArgs false
set_option maxHeartbeats 400000
/-- an int's range -/
def I64 (m : Int) : Prop := -9223372036854775808 ≤ m ∧ m < 9223372036854775808
theorem I64.of {m : Int} (h : (Lit.int .i64 m).wf = true) : I64 m := by
  have : -9223372036854775808 ≤ m ∧ m ≤ 9223372036854775807 := by simpa [Lit.wf, IntKind.min, IntKind.max, IntKind.signed, IntKind.bits] using h
  exact ⟨this.1, by omega⟩
theorem I64.nat {n : Nat} (h : n < 4611686018427387904) : I64 (n : Int) := ⟨by omega, by omega⟩
theorem wrap_u64_i64 (m : Int) (h0 : 0 ≤ m) (h : I64 m) : IntKind.u64.wrap m = m := by
  have h2 := h.2
  have := wrap_u64_of m.toNat (by unfold U64; omega)
  rwa [Int.toNat_of_nonneg h0] at this
end Go.Proofs.Ytmpmfgkabjedpaa
