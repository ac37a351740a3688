/- Layer 10: slices.Clone, Grow, Concat, Equal at slots.Kid (printed by ndsl_gen.py). -/
import Derived.Test.YtmpmfgkabjedpaaOwn3
import Derived.Test.YtmpmfgkabjedpaaSlLaw1
import Derived.Test.YtmpmfgkabjedpaaNdHalf
namespace Go.Proofs.Ytmpmfgkabjedpaa
open Go.RowKit
set_option linter.unusedVariables false
set_option linter.unusedSimpArgs false
set_option maxRecDepth 100000
set_option maxHeartbeats 4000000
theorem kiCell_len (x : Ki) : (kiCell x).length = 2 := rfl
theorem kiCell_one (x : Ki) : ∀ u ∈ kiCell x, u.oneCell' = true := by
  intro u hu
  simp [kiCell] at hu
  rcases hu with rfl | rfl <;> rfl
theorem ki_zc (n : Nat) : (Builtin.zeroCells #[.string { data := #[] }, .int .u32 0] n).size = n * 2 := by
  unfold Builtin.zeroCells; simp
theorem ki_clone (A : Option Addr) (n cap : Nat) (xs : List Ki) (hn : n = xs.length) (hcap : xs.length ≤ cap) (hcm : cap ≤ maxLen) (hl : xs.length ≤ 4000) (w : World) (hs : SliceAt w A 2 kiCell xs) :
    Calls Try.prog 41 #[.slice A n cap] w fun r w' => ∃ A' cap', r = .returned (.slice A' xs.length cap') ∧ Own w' w.heap.size 61 2 kiCell A' cap' xs ∧ Gr w w' := by
  subst hn
  unfold maxLen at hcm
  obtain ⟨ii, hii, hz0, hz1, hz2⟩ := info_parts sl_info_ki
  cases A with
  | none =>
    obtain rfl : xs = [] := by
      rcases hs with h0 | ⟨a, off, h0, hcell⟩
      · exact h0
      · cases h0
    have q1 : ∀ n c w1, (binOp .eql 25 (.slice none n c) (.slice none 0 0)).run Try.prog w1 = .ok (.bool true) w1 := fun n c w1 => by kernel_rfl
    simp only [List.length_nil] at *
    go_enter Try.func41, Try.ntmps41
    go_wp2

    go_ret
    exact ⟨none, 0, rfl, Own.nil _ _ _ _ _, Gr.refl _⟩
  | some ad =>
    have q1 : ∀ n c w1, (binOp .eql 25 (.slice (some ad) n c) (.slice none 0 0)).run Try.prog w1 = .ok (.bool false) w1 := fun n c w1 => by kernel_rfl
    have HO : Hid (Own (w.alloc (.cells #[] 61)) w.heap.size 61 2 kiCell (some ⟨w.heap.size, 0, none⟩) 0 ([] : List Ki)) := Own.lit (heap_alloc_last w _) (Nat.le_refl _) rfl rfl (by decide)
    have HG : Hid (Gr w (w.alloc (.cells #[] 61))) := (Gr.refl w).alloc _
    by_cases h0 : xs = []
    · subst h0
      simp only [List.length_nil] at *
      go_enter Try.func41, Try.ntmps41
      go_wp2_with (at_builtin; refine wpList_append_none _ rfl _ _ 25 rfl 61 ii Try.underlying25 hii (some ⟨w.heap.size, 0, none⟩) 0 0 (Nat.le_refl _) (some ad) cap rfl rfl ?_)
      go_ret
      exact ⟨_, _, rfl, HO.out, HG.out⟩
    · have hpos : 0 < xs.length := List.length_pos_iff.2 h0
      rcases hs with h1 | ⟨a, off, had, hcell⟩
      · exact absurd h1 h0
      · obtain rfl : ad = ⟨a, off, none⟩ := Option.some.inj had
        have HN := Lib.hid (slice_news kiCell_len hcell)
        have HC := Lib.hid hcell
        clear had hcell h0
        go_enter Try.func41, Try.ntmps41
        go_wp2_with (at_builtin; refine wpList_append_lies _ rfl _ _ 25 rfl w.heap.size 61 ii _ 2 24 Try.underlying25 hii hz0 hz1 hz2 rfl (by omega) (.slice (some ⟨w.heap.size, 0, none⟩) 0 0) 0 (([] : List Ki).flatMap kiCell) rfl HO.out ⟨a, off, none⟩ xs.length cap (xs.flatMap kiCell) rfl (cells_len 2 kiCell_len xs) (fun j u hu => HG.out.cells (HN.out j u hu)) (cells_one kiCell_one xs) hpos (by unfold maxLen; omega) (by omega) HG.out.size _ rfl ?_; intro gg cc v5 hown hgrow hat hlt5)
        have HT : Hid (Own v5 w.heap.size 61 2 kiCell (some ⟨gg, 0, none⟩) cc ([] ++ xs) ∧ Gr w v5) := ⟨Own.app hown, HO.out.grown hgrow HG.out (Nat.le_refl _)⟩
        clear hown hgrow hat
        go_ret
        exact ⟨_, _, by simp, HT.out.1, HT.out.2⟩
theorem ki_grow (m : Nat) (hm : m ≤ 4000) (w : World) :
    Calls Try.prog 83 #[.slice none 0 0, .int .i64 (m : Nat)] w fun r w' => ∃ A' cap', r = .returned (.slice A' 0 cap') ∧ Own w' w.heap.size 61 2 kiCell A' cap' [] ∧ Gr w w' := by
  obtain ⟨ii, hii, hz0, hz1, hz2⟩ := info_parts sl_info_ki
  by_cases h0 : m = 0
  · subst h0
    go_enter Try.func83, Try.ntmps83
    go_wp2
    go_ret
    exact ⟨none, 0, rfl, Own.nil _ _ _ _ _, Gr.refl _⟩
  · have hb : (Try.t61).bytes = 24 := by kernel_rfl
    have hns : Builtin.nextslicecap m 0 = m := by unfold Builtin.nextslicecap; simp; omega
    have h0' : (0 : Int) < (m : Int) := by omega
    go_enter Try.func83, Try.ntmps83
    go_wp2
    all_goals try (exfalso; simp only [hb, hns] at *; omega)
    go_ret
    have hc1 := (Question.appendCap m 0 61).cut (w.tape w.drawn (Question.appendCap m 0 61))
    refine ⟨_, _, rfl, ⟨rfl, .inr ⟨w.heap.size, _, _, rfl, Nat.le_refl _, heap_alloc_last w _, Nat.zero_le _, nd_cut_le m 0 61 _ hm, ?_, by simp⟩⟩, ((Gr.refl w).alloc _).drew⟩
    rw [Array.size_append, ki_zc, ki_zc]
    have := nd_cut_ge m 0 61 (w.tape w.drawn (Question.appendCap m 0 61))
    omega
end Go.Proofs.Ytmpmfgkabjedpaa
