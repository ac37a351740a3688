/- Layer 10: slices.Clone, Grow, Concat, Equal at api.Cell (printed by ndsl_gen.py). -/
import Derived.Test.YtmpmfgkabjedpaaOwn3
import Derived.Test.YtmpmfgkabjedpaaSlLaw1
import Derived.Test.YtmpmfgkabjedpaaNdHalf
namespace Go.Proofs.Ytmpmfgkabjedpaa
open Go.RowKit
set_option linter.unusedVariables false
set_option linter.unusedSimpArgs false
set_option maxRecDepth 100000
set_option maxHeartbeats 4000000
theorem ceCell_len (x : Ce) : (ceCell x).length = 4 := rfl
theorem ceCell_one (x : Ce) : ∀ u ∈ ceCell x, u.oneCell' = true := by
  intro u hu
  simp [ceCell] at hu
  rcases hu with rfl | rfl | rfl | rfl <;> rfl
theorem lf_zc (n : Nat) : (Builtin.zeroCells #[.string { data := #[] }, .string { data := #[] }, .int .u32 0, .int .u32 0] n).size = n * 4 := by
  unfold Builtin.zeroCells; simp
theorem lf_clone (A : Option Addr) (n cap : Nat) (xs : List Ce) (hn : n = xs.length) (hcap : xs.length ≤ cap) (hcm : cap ≤ maxLen) (hl : xs.length ≤ 4000) (w : World) (hs : SliceAt w A 4 ceCell xs) :
    Calls Try.prog 38 #[.slice A n cap] w fun r w' => ∃ A' cap', r = .returned (.slice A' xs.length cap') ∧ Own w' w.heap.size 59 4 ceCell A' cap' xs ∧ Gr w w' := by
  subst hn
  unfold maxLen at hcm
  obtain ⟨ii, hii, hz0, hz1, hz2⟩ := info_parts sl_info_ce
  cases A with
  | none =>
    obtain rfl : xs = [] := by
      rcases hs with h0 | ⟨a, off, h0, hcell⟩
      · exact h0
      · cases h0
    have q1 : ∀ n c w1, (binOp .eql 22 (.slice none n c) (.slice none 0 0)).run Try.prog w1 = .ok (.bool true) w1 := fun n c w1 => by kernel_rfl
    simp only [List.length_nil] at *
    go_enter Try.func38, Try.ntmps38
    go_wp2

    go_ret
    exact ⟨none, 0, rfl, Own.nil _ _ _ _ _, Gr.refl _⟩
  | some ad =>
    have q1 : ∀ n c w1, (binOp .eql 22 (.slice (some ad) n c) (.slice none 0 0)).run Try.prog w1 = .ok (.bool false) w1 := fun n c w1 => by kernel_rfl
    have HO : Hid (Own (w.alloc (.cells #[] 59)) w.heap.size 59 4 ceCell (some ⟨w.heap.size, 0, none⟩) 0 ([] : List Ce)) := Own.lit (heap_alloc_last w _) (Nat.le_refl _) rfl rfl (by decide)
    have HG : Hid (Gr w (w.alloc (.cells #[] 59))) := (Gr.refl w).alloc _
    by_cases h0 : xs = []
    · subst h0
      simp only [List.length_nil] at *
      go_enter Try.func38, Try.ntmps38
      go_wp2_with (at_builtin; refine wpList_append_none _ rfl _ _ 22 rfl 59 ii Try.underlying22 hii (some ⟨w.heap.size, 0, none⟩) 0 0 (Nat.le_refl _) (some ad) cap rfl rfl ?_)
      go_ret
      exact ⟨_, _, rfl, HO.out, HG.out⟩
    · have hpos : 0 < xs.length := List.length_pos_iff.2 h0
      rcases hs with h1 | ⟨a, off, had, hcell⟩
      · exact absurd h1 h0
      · obtain rfl : ad = ⟨a, off, none⟩ := Option.some.inj had
        have HN := Lib.hid (slice_news ceCell_len hcell)
        have HC := Lib.hid hcell
        clear had hcell h0
        go_enter Try.func38, Try.ntmps38
        go_wp2_with (at_builtin; refine wpList_append_lies _ rfl _ _ 22 rfl w.heap.size 59 ii _ 4 40 Try.underlying22 hii hz0 hz1 hz2 rfl (by omega) (.slice (some ⟨w.heap.size, 0, none⟩) 0 0) 0 (([] : List Ce).flatMap ceCell) rfl HO.out ⟨a, off, none⟩ xs.length cap (xs.flatMap ceCell) rfl (cells_len 4 ceCell_len xs) (fun j u hu => HG.out.cells (HN.out j u hu)) (cells_one ceCell_one xs) hpos (by unfold maxLen; omega) (by omega) HG.out.size _ rfl ?_; intro gg cc v5 hown hgrow hat hlt5)
        have HT : Hid (Own v5 w.heap.size 59 4 ceCell (some ⟨gg, 0, none⟩) cc ([] ++ xs) ∧ Gr w v5) := ⟨Own.app hown, HO.out.grown hgrow HG.out (Nat.le_refl _)⟩
        clear hown hgrow hat
        go_ret
        exact ⟨_, _, by simp, HT.out.1, HT.out.2⟩
theorem lf_grow (m : Nat) (hm : m ≤ 4000) (w : World) :
    Calls Try.prog 82 #[.slice none 0 0, .int .i64 (m : Nat)] w fun r w' => ∃ A' cap', r = .returned (.slice A' 0 cap') ∧ Own w' w.heap.size 59 4 ceCell A' cap' [] ∧ Gr w w' := by
  obtain ⟨ii, hii, hz0, hz1, hz2⟩ := info_parts sl_info_ce
  by_cases h0 : m = 0
  · subst h0
    go_enter Try.func82, Try.ntmps82
    go_wp2
    go_ret
    exact ⟨none, 0, rfl, Own.nil _ _ _ _ _, Gr.refl _⟩
  · have hb : (Try.t59).bytes = 40 := by kernel_rfl
    have hns : Builtin.nextslicecap m 0 = m := by unfold Builtin.nextslicecap; simp; omega
    have h0' : (0 : Int) < (m : Int) := by omega
    go_enter Try.func82, Try.ntmps82
    go_wp2
    all_goals try (exfalso; simp only [hb, hns] at *; omega)
    go_ret
    have hc1 := (Question.appendCap m 0 59).cut (w.tape w.drawn (Question.appendCap m 0 59))
    refine ⟨_, _, rfl, ⟨rfl, .inr ⟨w.heap.size, _, _, rfl, Nat.le_refl _, heap_alloc_last w _, Nat.zero_le _, nd_cut_le m 0 59 _ hm, ?_, by simp⟩⟩, ((Gr.refl w).alloc _).drew⟩
    rw [Array.size_append, lf_zc, lf_zc]
    have := nd_cut_ge m 0 59 (w.tape w.drawn (Question.appendCap m 0 59))
    omega
end Go.Proofs.Ytmpmfgkabjedpaa
