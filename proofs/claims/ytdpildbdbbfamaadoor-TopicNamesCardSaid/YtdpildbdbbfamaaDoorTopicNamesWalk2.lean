/- The law TopicNames: its arguments opened. -/
import Derived.Test.YtdpildbdbbfamaaDoorTopicNamesWalk
namespace Go.Proofs.YtdpildbdbbfamaaDoor
open Go.RowKit
set_option linter.unusedVariables false
theorem walk_TopicNames {w : World} (s : ByteArray) (ws : s.size ≤ maxLen) (kind : Int) (wk : (Lit.int .i64 kind).wf = true) (hml : ∃ m, w.cell? ⟨0, 0, none⟩ = some (.int .i64 m)) :
    Calls Tryd.prog 5 #[.string s, .int .i64 kind] w fun e w' => e = .returned (.bool true) ∧ Gr w w' := by
  obtain ⟨S, rfl⟩ : ∃ S, s = B S := ⟨s.data.toList, rfl⟩
  exact walk_TopicNames_ S kind w hml
end Go.Proofs.YtdpildbdbbfamaaDoor
