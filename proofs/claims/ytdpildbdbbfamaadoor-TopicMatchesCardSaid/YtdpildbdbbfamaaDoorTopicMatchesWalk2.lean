/- The law TopicMatches: its arguments opened. -/
import Derived.Test.YtdpildbdbbfamaaDoorTopicMatchesWalk
namespace Go.Proofs.YtdpildbdbbfamaaDoor
open Go.RowKit
set_option linter.unusedVariables false
theorem walk_TopicMatches {w : World} (kind : Int) (wk : (Lit.int .i64 kind).wf = true) (p : ByteArray) (wp : p.size ≤ maxLen) (k : ByteArray) (wk2 : k.size ≤ maxLen) (hml : ∃ m, w.cell? ⟨0, 0, none⟩ = some (.int .i64 m)) :
    Calls Tryd.prog 3 #[.int .i64 kind, .string p, .string k] w fun e w' => e = .returned (.bool true) ∧ Gr w w' := by
  obtain ⟨P, rfl⟩ : ∃ S, p = B S := ⟨p.data.toList, rfl⟩
  obtain ⟨K, rfl⟩ : ∃ S, k = B S := ⟨k.data.toList, rfl⟩
  exact walk_TopicMatches_ kind P K w hml
end Go.Proofs.YtdpildbdbbfamaaDoor
