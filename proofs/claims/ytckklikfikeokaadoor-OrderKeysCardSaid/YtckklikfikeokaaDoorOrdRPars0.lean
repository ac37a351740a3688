/- Layer 4: the document's Num; a byte of a text by its place (for the document's Parts). -/
import Derived.Test.YtckklikfikeokaaDoorOrdPars
import Derived.Test.YtckklikfikeokaaDoorOctRef
namespace Go.Proofs.YtckklikfikeokaaDoor
open Go.RowKit
set_option linter.unusedVariables false
set_option linter.unusedSimpArgs false
set_option maxRecDepth 100000
set_option maxHeartbeats 2000000
theorem r4_num (n : Nat) (hn : U64 n) (w : World) :
    Calls Tryd.prog 47 #[.int .u64 n] w fun r w' => r = .returned (.agg #[.bool false, .int .u64 n, .string .empty]) ∧ Gr w w' := by
  go_enter Tryd.func47, Tryd.ntmps47
  go_wp2
  refine bodyPost_ret (v := .agg #[.bool false, .int .u64 n, .string .empty]) (results_cell_row rfl _ _ w.heap.size _ #[.bool false, .int .u64 n, .string .empty] (0, 0) (.struct _) rfl (heap_alloc_last _ _) Tryd.underlying27 rfl (by kernel_rfl)) rfl ⟨rfl, (Gr.refl w).alloc _⟩
theorem B_at (S : List UInt8) (k : Nat) (h : k < S.length) (h2 : k < (B S).size) : (B S)[k] = S[k] := rfl
theorem drop_at (S : List UInt8) (k : Nat) (h : k < S.length) : S.drop k = S[k] :: S.drop (k + 1) := List.drop_eq_getElem_cons h
end Go.Proofs.YtckklikfikeokaaDoor
