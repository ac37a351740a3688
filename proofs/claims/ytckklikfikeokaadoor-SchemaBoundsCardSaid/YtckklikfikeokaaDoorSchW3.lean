/- Layer 18: the chapter's example. -/
import Derived.Test.YtckklikfikeokaaDoorSchW2
namespace Go.Proofs.YtckklikfikeokaaDoor
open Go.RowKit
set_option linter.unusedVariables false
set_option linter.unusedSimpArgs false
set_option maxRecDepth 100000
set_option maxHeartbeats 2000000
theorem sc_keyA : keyAns [((true, 0, ⟨#[113]⟩) : Pa), (true, 0, ⟨#[97]⟩)] = (⟨#[2, 113, 0, 0, 2, 97, 0, 0]⟩, 0) := by
  unfold keyAns
  rw [if_neg (by decide)]
  decide
theorem sc_queueA (w : World) (hml : ∃ m, w.cell? ⟨0, 0, none⟩ = some (.int .i64 m)) :
    Calls Tryd.prog 28 #[.string ⟨#[97]⟩] w fun r w' => r = .returned (.tuple #[.string ⟨#[2, 113, 0, 0, 2, 97, 0, 0]⟩, .int .i64 0]) ∧ Gr w w' := by
  have cS := fun w1 => Lib.hid (or_str ⟨#[97]⟩ w1)
  have cK : ∀ (g : Nat) (w2 : World), Gr w w2 → SliceAt w2 (some ⟨g, 0, none⟩) 3 paCell [((true, 0, ⟨#[97]⟩) : Pa)] → Hid (Calls Tryd.prog 29 #[.string ⟨#[113]⟩, .slice (some ⟨g, 0, none⟩) 1 1] w2 fun r w' => r = .returned (.tuple #[.string ⟨#[2, 113, 0, 0, 2, 97, 0, 0]⟩, .int .i64 0]) ∧ Gr w2 w') := by
    intro g w2 hg hs
    have h := sc_key ⟨#[113]⟩ (by decide) (some ⟨g, 0, none⟩) 1 [((true, 0, ⟨#[97]⟩) : Pa)] (by simp) (by simp) (by decide) (by
      intro p hp
      simp only [List.mem_singleton] at hp
      subst hp
      exact ⟨by show (0 : Nat) < _; omega, by decide⟩) w2 (by obtain ⟨m, hm⟩ := hml; exact ⟨m, hg.cells hm⟩) hs
    rw [sc_keyA] at h
    exact h
  have HSL : Hid (∀ (w2 : World) (g : Nat), w2.heap[g]? = some (.cells #[.bool true, .int .u64 0, .string ⟨#[97]⟩] 30 (0, 0)) → SliceAt w2 (some ⟨g, 0, none⟩) 3 paCell [((true, 0, ⟨#[97]⟩) : Pa)]) :=
    fun w2 g hg => (Own.lit (base := 0) (xs := [((true, 0, ⟨#[97]⟩) : Pa)]) hg (by omega) rfl rfl (by show 1 ≤ maxLen; decide)).slice paCell_len
  clear hml
  go_enter Tryd.func28, Tryd.ntmps28
  go_wp2_with (first
    | (go_at_call 26; refine (cS _).out.mono ?_; clear cS; rintro r v1 ⟨rfl, hg⟩; have HG1 := Lib.hid hg; clear hg; have HG2 : Hid (Gr w (v1.alloc (.cells #[.bool true, .int .u64 0, .string ⟨#[97]⟩] 30))) := HG1.out.alloc _; have HS := Lib.hid (HSL.out _ _ (heap_alloc_last v1 (.cells #[.bool true, .int .u64 0, .string ⟨#[97]⟩] 30))))
    | (go_at_call 29; refine (cK _ _ HG2.out HS.out).out.mono ?_; clear cK; rintro r v3 ⟨rfl, hg⟩; have HG3 := Lib.hid (HG2.out.trans hg); clear hg))
  go_ret2
  exact ⟨rfl, HG3.out⟩
theorem law18_awake (w : World) (hml : ∃ m, w.cell? ⟨0, 0, none⟩ = some (.int .i64 m)) :
    Calls Tryd.prog 8 #[] w fun r w' => r = .returned (.bool true) ∧ Gr w w' := by
  have cQ := Lib.hid (sc_queueA w hml)
  clear hml
  go_enter Tryd.func8, Tryd.ntmps8
  go_wp2_with (go_at_call 28; refine cQ.out.mono ?_; clear cQ; rintro r v1 ⟨rfl, hg⟩)
  go_ret
  exact ⟨rfl, hg⟩
end Go.Proofs.YtckklikfikeokaaDoor
