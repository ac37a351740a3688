/- The law OrderAfter: its arguments opened. -/
import Derived.Test.YtckklikfikeokaaDoorOrderAfterWalk
namespace Go.Proofs.YtckklikfikeokaaDoor
open Go.RowKit
set_option linter.unusedVariables false
theorem walk_OrderAfter {w : World} (p : ByteArray) (hp : p.size ≤ maxLen) (s : ByteArray) (hs : s.size ≤ maxLen) (t : ByteArray) (ht : t.size ≤ maxLen) :
    Calls Tryd.prog 5 #[.string p, .string s, .string t] w fun e w' => e = .returned (.bool true) ∧ Gr w w' := by
  obtain ⟨P, rfl⟩ := B_of p
  obtain ⟨S, rfl⟩ := B_of s
  obtain ⟨T, rfl⟩ := B_of t
  rw [B_size] at hp hs ht
  exact walk_OrderAfter_ P S T hp hs ht w
end Go.Proofs.YtckklikfikeokaaDoor
