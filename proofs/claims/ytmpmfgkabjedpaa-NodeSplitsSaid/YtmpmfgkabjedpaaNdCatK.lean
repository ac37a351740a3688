/- Layer 10: slices.Concat of two rows of slots.Kid (printed by ndcat_gen.py). -/
import Derived.Test.YtmpmfgkabjedpaaNdSlK
namespace Go.Proofs.Ytmpmfgkabjedpaa
open Go.RowKit
set_option linter.unusedVariables false
set_option linter.unusedSimpArgs false
set_option maxRecDepth 100000
set_option maxHeartbeats 4000000
theorem ki_concat (b : Nat) (A1 A2 : Option Addr) (c1 c2 : Nat) (xs ys : List Ki) (h1 : xs.length ≤ c1) (h2 : ys.length ≤ c2) (hm1 : c1 ≤ maxLen) (hm2 : c2 ≤ maxLen) (l1 : xs.length ≤ 1000) (l2 : ys.length ≤ 1000) (w : World)
    (p1 : w.cell? ⟨b, 0, none⟩ = some (.slice A1 xs.length c1)) (p2 : w.cell? ⟨b, 1, none⟩ = some (.slice A2 ys.length c2)) (hs1 : SliceAt w A1 2 kiCell xs) (hs2 : SliceAt w A2 2 kiCell ys) :
    Calls Try.prog 47 #[.slice (some ⟨b, 0, none⟩) 2 2] w fun r w' => ∃ A' cap', r = .returned (.slice A' (xs ++ ys).length cap') ∧ Own w' w.heap.size 61 2 kiCell A' cap' (xs ++ ys) ∧ Gr w w' := by
  unfold maxLen at hm1 hm2
  obtain ⟨ii, hii, hz0, hz1, hz2⟩ := info_parts sl_info_ki
  have HX := Lib.hid (And.intro hs1 hs2)
  have cG := fun w1 => Lib.hid (ki_grow (xs.length + ys.length) (by omega) w1)
  clear hs1 hs2
  go_enter Try.func47, Try.ntmps47
  go_wp2
  go_loopw [3, 11] (fun sz i wr => ((i = .int .i64 0 ∧ sz = .int .i64 0) ∨ (i = .int .i64 1 ∧ sz = .int .i64 ((xs.length : Nat) : Int)) ∨ (i = .int .i64 2 ∧ sz = .int .i64 ((xs.length + ys.length : Nat) : Int))) ∧ Hid (Gr w wr)) (fun _ i _ => 2 - (intOf i).toNat)
  case atStart => exact ⟨.inl ⟨rfl, rfl⟩, Gr.refl _⟩
  case round =>
    obtain ⟨hc, HR⟩ := hrel
    have q1 := HR.out.cells p1
    have q2 := HR.out.cells p2
    rcases hc with ⟨rfl, rfl⟩ | ⟨rfl, rfl⟩ | ⟨rfl, rfl⟩
    · have hw : IntKind.i64.wrap ((xs.length : Nat) : Int) = ((xs.length : Nat) : Int) := by rw [IntKind.wrap_i64]; omega
      have hn : ¬ ((xs.length : Nat) : Int) < 0 := by omega
      go_wp2
      go_roundw
      case rel => exact ⟨.inr (.inl ⟨by go_num, by go_num⟩), HR⟩
      case measure => decide
    · have hw : IntKind.i64.wrap (((xs.length : Nat) : Int) + ((ys.length : Nat) : Int)) = ((xs.length : Nat) : Int) + ((ys.length : Nat) : Int) := by rw [IntKind.wrap_i64]; omega
      have hn : ¬ ((xs.length : Nat) : Int) + ((ys.length : Nat) : Int) < 0 := by omega
      go_wp2
      go_roundw
      case rel => exact ⟨.inr (.inr ⟨by go_num, by go_num⟩), HR⟩
      case measure => decide
    · go_wp2_with (go_at_call 83; refine (cG _).out.mono ?_; clear cG; rintro r v1 ⟨A0, c0, rfl, hown, hg⟩; have HO : Hid (Own v1 w.heap.size 61 2 kiCell A0 c0 ([] : List Ki) ∧ Gr w v1) := ⟨hown.mono HR.out.size, HR.out.trans hg⟩; clear hown hg)
      have hv1 := Lib.hid (And.intro (HO.out.2.cells p1) (HO.out.2.cells p2))
      clear HR q1 q2
      generalize wr = wold
      go_loopw [6, 27] (fun v i wr => ∃ A' cap', ((i = .int .i64 0 ∧ v = .slice A' 0 cap' ∧ Hid (Own wr w.heap.size 61 2 kiCell A' cap' ([] : List Ki) ∧ Gr w wr)) ∨ (i = .int .i64 1 ∧ v = .slice A' xs.length cap' ∧ Hid (Own wr w.heap.size 61 2 kiCell A' cap' xs ∧ Gr w wr)) ∨ (i = .int .i64 2 ∧ v = .slice A' (xs ++ ys).length cap' ∧ Hid (Own wr w.heap.size 61 2 kiCell A' cap' (xs ++ ys) ∧ Gr w wr)))) (fun _ i _ => 2 - (intOf i).toNat)
      case atStart => exact ⟨_, _, .inl ⟨rfl, rfl, HO.out⟩⟩
      case round =>
        obtain ⟨A', cap', ⟨rfl, rfl, HR⟩ | ⟨rfl, rfl, HR⟩ | ⟨rfl, rfl, HR⟩⟩ := hrel
        · have q1 := HR.out.2.cells p1
          have q2 := HR.out.2.cells p2
          have hle := HR.out.1.cap_le
          by_cases h0 : xs = []
          · have hz : xs.length = 0 := by rw [h0]; rfl
            have HT : Hid (Own wr w.heap.size 61 2 kiCell A' cap' ([] ++ xs) ∧ Gr w wr) := by
              unfold Hid; rw [h0, List.append_nil]; exact HR.out
            have hle1 : 0 ≤ cap' := hle.1
            rw [hz] at q1
            clear hle hz
            have HH0 := Lib.hid h0
            clear h0
            go_wp2_with (at_builtin; refine wpList_append_none _ rfl _ _ 25 rfl 61 ii Try.underlying25 hii A' 0 cap' hle1 A1 c1 rfl rfl ?_)
            go_roundw
            case rel => exact ⟨A', cap', .inr <| .inl ⟨by go_num, by rw [HH0.out]; rfl, HT⟩⟩
            case measure => decide
          · have hpos : 0 < xs.length := List.length_pos_iff.2 h0
            rcases HX.out.1 with h1 | ⟨a, off, rfl, hcell⟩
            · exact absurd h1 h0
            · have HN := Lib.hid (slice_news kiCell_len hcell)
              clear hcell h0 hle
              go_wp2_with (at_builtin; refine wpList_append_lies _ rfl _ _ 25 rfl w.heap.size 61 ii _ 2 24 Try.underlying25 hii hz0 hz1 hz2 rfl (by omega) (.slice A' 0 cap') 0 (([] : List Ki).flatMap kiCell) rfl HR.out.1 ⟨a, off, none⟩ xs.length c1 (xs.flatMap kiCell) rfl (cells_len 2 kiCell_len xs) (fun j u hu => HR.out.2.cells (HN.out j u hu)) (cells_one kiCell_one xs) hpos (by unfold maxLen; omega) (by omega) HR.out.2.size _ rfl ?_; intro gg cc v5 hown hgrow hat hlt5)
              have HT : Hid (Own v5 w.heap.size 61 2 kiCell (some ⟨gg, 0, none⟩) cc ([] ++ xs) ∧ Gr w v5) := ⟨Own.app hown, HR.out.1.grown hgrow HR.out.2 (Nat.le_refl _)⟩
              clear hown hgrow hat HR
              go_roundw
              case rel => exact ⟨_, _, .inr <| .inl ⟨by go_num, by go_num, HT⟩⟩
              case measure => decide
        · have q1 := HR.out.2.cells p1
          have q2 := HR.out.2.cells p2
          have hle := HR.out.1.cap_le
          by_cases h0 : ys = []
          · have hz : ys.length = 0 := by rw [h0]; rfl
            have HT : Hid (Own wr w.heap.size 61 2 kiCell A' cap' (xs ++ ys) ∧ Gr w wr) := by
              unfold Hid; rw [h0, List.append_nil]; exact HR.out
            have hle1 : xs.length ≤ cap' := hle.1
            rw [hz] at q2
            clear hle hz
            have HH0 := Lib.hid h0
            clear h0
            go_wp2_with (at_builtin; refine wpList_append_none _ rfl _ _ 25 rfl 61 ii Try.underlying25 hii A' xs.length cap' hle1 A2 c2 rfl rfl ?_)
            go_roundw
            case rel => exact ⟨A', cap', .inr <| .inr ⟨by go_num, by rw [HH0.out, List.append_nil], HT⟩⟩
            case measure => decide
          · have hpos : 0 < ys.length := List.length_pos_iff.2 h0
            rcases HX.out.2 with h1 | ⟨a, off, rfl, hcell⟩
            · exact absurd h1 h0
            · have HN := Lib.hid (slice_news kiCell_len hcell)
              clear hcell h0 hle
              go_wp2_with (at_builtin; refine wpList_append_lies _ rfl _ _ 25 rfl w.heap.size 61 ii _ 2 24 Try.underlying25 hii hz0 hz1 hz2 rfl (by omega) (.slice A' xs.length cap') xs.length ((xs : List Ki).flatMap kiCell) rfl HR.out.1 ⟨a, off, none⟩ ys.length c2 (ys.flatMap kiCell) rfl (cells_len 2 kiCell_len ys) (fun j u hu => HR.out.2.cells (HN.out j u hu)) (cells_one kiCell_one ys) hpos (by unfold maxLen; omega) (by omega) HR.out.2.size _ rfl ?_; intro gg cc v5 hown hgrow hat hlt5)
              have HT : Hid (Own v5 w.heap.size 61 2 kiCell (some ⟨gg, 0, none⟩) cc (xs ++ ys) ∧ Gr w v5) := ⟨Own.app hown, HR.out.1.grown hgrow HR.out.2 (Nat.le_refl _)⟩
              clear hown hgrow hat HR
              go_roundw
              case rel => exact ⟨_, _, .inr <| .inr ⟨by go_num, by rw [List.length_append], HT⟩⟩
              case measure => decide
        · go_wp2
          go_ret
          exact ⟨_, _, rfl, HR.out.1, HR.out.2⟩
end Go.Proofs.Ytmpmfgkabjedpaa
