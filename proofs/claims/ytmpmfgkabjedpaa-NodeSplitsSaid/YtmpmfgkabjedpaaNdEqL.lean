/- Layer 10: slices.Equal of two rows of the same api.Cell (printed by ndeq_gen.py). -/
import Derived.Test.YtmpmfgkabjedpaaSlLaw1
namespace Go.Proofs.Ytmpmfgkabjedpaa
open Go.RowKit
set_option linter.unusedVariables false
set_option linter.unusedSimpArgs false
set_option maxRecDepth 100000
set_option maxHeartbeats 2000000
theorem lf_equal (A1 A2 : Option Addr) (cap1 cap2 : Nat) (xs : List Ce) (h1 : xs.length ≤ cap1) (h2 : xs.length ≤ cap2) (hm1 : cap1 ≤ maxLen) (hm2 : cap2 ≤ maxLen) (w : World) (hs1 : SliceAt w A1 4 ceCell xs) (hs2 : SliceAt w A2 4 ceCell xs) :
    Calls Try.prog 48 #[.slice A1 xs.length cap1, .slice A2 xs.length cap2] w fun r w' => r = .returned (.bool true) ∧ Gr w w' := by
  unfold maxLen at hm1 hm2
  have HX := Lib.hid (And.intro hs1 hs2)
  clear hs1 hs2
  go_enter Try.func48, Try.ntmps48
  go_wp2
  go_loopw [13] (fun i wr => ∃ k : Nat, k ≤ xs.length ∧ i = .int .i64 (k : Nat) ∧ Hid (Gr w wr)) (fun i _ => xs.length - (intOf i).toNat)
  case atStart => exact ⟨0, by omega, rfl, Gr.refl _⟩
  case round =>
    obtain ⟨k, hk, rfl, HR⟩ := hrel
    by_cases hlt : k < xs.length
    · rcases HX.out.1 with h0 | ⟨a, off, rfl, hcell⟩
      · subst h0; simp at hlt
      rcases HX.out.2 with h0 | ⟨a1, off1, rfl, hcell1⟩
      · subst h0; simp at hlt
      have hget := List.getElem?_eq_getElem hlt
      generalize xs[k] = x at *
      obtain ⟨e0, e1, e2, e3⟩ := x
      have a0 := HR.out.cells (hcell k _ hget 0 _ rfl)
      have d0 := HR.out.cells (hcell1 k _ hget 0 _ rfl)
      have a1 := HR.out.cells (hcell k _ hget 1 _ rfl)
      have d1 := HR.out.cells (hcell1 k _ hget 1 _ rfl)
      have a2 := HR.out.cells (hcell k _ hget 2 _ rfl)
      have d2 := HR.out.cells (hcell1 k _ hget 2 _ rfl)
      have a3 := HR.out.cells (hcell k _ hget 3 _ rfl)
      have d3 := HR.out.cells (hcell1 k _ hget 3 _ rfl)
      simp only [Nat.add_zero] at a0 d0
      clear hcell hcell1 hget
      have HT : Hid (Gr w wr.drew) := HR.out.drew
      go_wp2
      go_region
      go_wp2
      go_roundw
      case rel => exact ⟨k + 1, by omega, by go_num, HT⟩
      case measure => simp [intOf]; omega
    · obtain rfl : k = xs.length := by omega
      go_wp2
      go_ret
      exact ⟨rfl, HR.out⟩
end Go.Proofs.Ytmpmfgkabjedpaa
