/- Layer 10: the first kid's key made empty. -/
import Derived.Test.YtmpmfgkabjedpaaNdM
namespace Go.Proofs.Ytmpmfgkabjedpaa
open Go.RowKit
set_option linter.unusedVariables false
set_option linter.unusedSimpArgs false
set_option maxRecDepth 100000
set_option maxHeartbeats 2000000
theorem nd_bare (q base cap : Nat) (y : Ki) (yt : List Ki) (w : World) (h : Own w base 61 2 kiCell (some ⟨q, 0, none⟩) cap (y :: yt)) :
    Calls Try.prog 42 #[.agg #[.bool false, .slice none 0 0, .slice (some ⟨q, 0, none⟩) (y :: yt).length cap]] w fun r w' => r = .returned (.tuple #[]) ∧ Own w' base 61 2 kiCell (some ⟨q, 0, none⟩) cap ((.empty, y.2) :: yt) ∧ Ch q w w' := by
  obtain ⟨n, hn⟩ : ∃ n, n = (y :: yt).length := ⟨_, rfl⟩
  rw [← hn]
  have hpos : (0 : Int) < ((n : Nat) : Int) := by rw [hn]; simp only [List.length_cons]; omega
  have hle := h.cap_le
  rw [← hn] at hle
  clear hn
  have HO : Hid (Own (w.alloc (.cells #[.bool false, .slice none 0 0, .slice (some ⟨q, 0, none⟩) n cap] 27)) base 61 2 kiCell (some ⟨q, 0, none⟩) cap (y :: yt)) := h.gr ((Gr.refl w).alloc _)
  have HC : Hid (Ch q w (w.alloc (.cells #[.bool false, .slice none 0 0, .slice (some ⟨q, 0, none⟩) n cap] 27))) := (Ch.refl q w).alloc _
  obtain ⟨q', hq, _, _, hcell⟩ := HO.out.head (fun _ => rfl)
  cases hq
  have k0 := hcell 0 _ rfl
  obtain ⟨cur, hrow⟩ := HO.out.row
  have f0 := frozen_of_row _ _ 0 _ _ hrow
  clear hcell hrow h
  go_enter Try.func42, Try.ntmps42
  go_wp2
  go_end0
  exact ⟨rfl, HO.out.set0 _ rfl (fun _ => rfl) (by omega), HC.out.setCell 0 _⟩
end Go.Proofs.Ytmpmfgkabjedpaa
