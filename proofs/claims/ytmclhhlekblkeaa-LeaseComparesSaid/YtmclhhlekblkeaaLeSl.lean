/- Layer 23: slices.Clone at a table's entries (after XNdSlL). -/
import Derived.Test.YtmclhhlekblkeaaLeAll
namespace Go.Proofs.Ytmclhhlekblkeaa
open Go.RowKit Go.Shelf
set_option linter.unusedVariables false
set_option linter.unusedSimpArgs false
set_option maxRecDepth 100000
set_option maxHeartbeats 2000000
theorem le_info_en : (Try.prog.info? 89).map (fun i => (i.zero, i.size, i.bytes)) = some (some (.agg #[.string { data := #[] }, .int .u64 0, .int .u64 0]), 3, 32) := by kernel_rfl
theorem en_clone (A : Option Addr) (n cap : Nat) (xs : List En) (hn : n = xs.length) (hcap : xs.length ≤ cap) (hcm : cap ≤ maxLen) (hl : xs.length ≤ 4000) (w : World) (hs : SliceAt w A 3 enCell xs) :
    Calls Try.prog 43 #[.slice A n cap] w fun r w' => ∃ A' cap', r = .returned (.slice A' xs.length cap') ∧ Own w' w.heap.size 89 3 enCell A' cap' xs ∧ Gr w w' := by
  subst hn
  unfold maxLen at hcm
  obtain ⟨ii, hii, hz0, hz1, hz2⟩ := info_parts le_info_en
  cases A with
  | none =>
    obtain rfl : xs = [] := by
      rcases hs with h0 | ⟨a, off, h0, hcell⟩
      · exact h0
      · cases h0
    have q1 : ∀ n c w1, (binOp .eql 49 (.slice none n c) (.slice none 0 0)).run Try.prog w1 = .ok (.bool true) w1 := fun n c w1 => by kernel_rfl
    simp only [List.length_nil] at *
    go_enter Try.func43, Try.ntmps43
    go_wp2

    go_ret
    exact ⟨none, 0, rfl, Own.nil _ _ _ _ _, Gr.refl _⟩
  | some ad =>
    have q1 : ∀ n c w1, (binOp .eql 49 (.slice (some ad) n c) (.slice none 0 0)).run Try.prog w1 = .ok (.bool false) w1 := fun n c w1 => by kernel_rfl
    have HO : Hid (Own (w.alloc (.cells #[] 89)) w.heap.size 89 3 enCell (some ⟨w.heap.size, 0, none⟩) 0 ([] : List En)) := Own.lit (heap_alloc_last w _) (Nat.le_refl _) rfl rfl (by decide)
    have HG : Hid (Gr w (w.alloc (.cells #[] 89))) := (Gr.refl w).alloc _
    by_cases h0 : xs = []
    · subst h0
      simp only [List.length_nil] at *
      go_enter Try.func43, Try.ntmps43
      go_wp2_with (at_builtin; refine wpList_append_none _ rfl _ _ 49 rfl 89 ii Try.underlying49 hii (some ⟨w.heap.size, 0, none⟩) 0 0 (Nat.le_refl _) (some ad) cap rfl rfl ?_)
      go_ret
      exact ⟨_, _, rfl, HO.out, HG.out⟩
    · have hpos : 0 < xs.length := List.length_pos_iff.2 h0
      rcases hs with h1 | ⟨a, off, had, hcell⟩
      · exact absurd h1 h0
      · obtain rfl : ad = ⟨a, off, none⟩ := Option.some.inj had
        have HN := Lib.hid (slice_news enCell_len hcell)
        have HC := Lib.hid hcell
        clear had hcell h0
        go_enter Try.func43, Try.ntmps43
        go_wp2_with (at_builtin; refine wpList_append_lies _ rfl _ _ 49 rfl w.heap.size 89 ii _ 3 32 Try.underlying49 hii hz0 hz1 hz2 rfl (by omega) (.slice (some ⟨w.heap.size, 0, none⟩) 0 0) 0 (([] : List En).flatMap enCell) rfl HO.out ⟨a, off, none⟩ xs.length cap (xs.flatMap enCell) rfl (cells_len 3 enCell_len xs) (fun j u hu => HG.out.cells (HN.out j u hu)) (cells_one enCell_one xs) hpos (by unfold maxLen; omega) (by omega) HG.out.size _ rfl ?_; intro gg cc v5 hown hgrow hat hlt5)
        have HT : Hid (Own v5 w.heap.size 89 3 enCell (some ⟨gg, 0, none⟩) cc ([] ++ xs) ∧ Gr w v5) := ⟨Own.app hown, HO.out.grown hgrow HG.out (Nat.le_refl _)⟩
        clear hown hgrow hat
        go_ret
        exact ⟨_, _, by simp, HT.out.1, HT.out.2⟩
end Go.Proofs.Ytmclhhlekblkeaa
