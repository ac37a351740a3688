/- Layer 6: what its laws call (printed by sllaw_gen.py). -/
import Derived.Test.YtmpmfgkabjedpaaSlLaw0
import Derived.Test.YtmpmfgkabjedpaaSl5L
import Derived.Test.YtmpmfgkabjedpaaSl5K
import Derived.Test.YtmpmfgkabjedpaaOwn2
namespace Go.Proofs.Ytmpmfgkabjedpaa
open Go.RowKit
set_option linter.unusedVariables false
set_option linter.unusedSimpArgs false
set_option maxRecDepth 100000
set_option maxHeartbeats 4000000
def kiOf (x : Ce) : Ki := (x.1, x.2.2.1)
def ceOf (x : Ki) : Ce := (x.1, .empty, x.2, 0)
theorem sl_info_ki : (Try.prog.info? 61).map (fun i => (i.zero, i.size, i.bytes)) = some (some (.agg #[.string { data := #[] }, .int .u32 0]), 2, 24) := by kernel_rfl
theorem sl_info_ce : (Try.prog.info? 59).map (fun i => (i.zero, i.size, i.bytes)) = some (some (.agg #[.string { data := #[] }, .string { data := #[] }, .int .u32 0, .int .u32 0]), 4, 40) := by kernel_rfl
theorem law_kids (A : Option Addr) (cap : Nat) (xs : List Ce) (hcap : xs.length ≤ cap) (hcm : cap ≤ maxLen) (hl : xs.length ≤ 4000) (w : World) (hs : SliceAt w A 4 ceCell xs) :
    Calls Try.prog 35 #[.slice A xs.length cap] w fun r w' => ∃ A' cap', r = .returned (.slice A' (xs.map kiOf).length cap') ∧ Own w' w.heap.size 61 2 kiCell A' cap' (xs.map kiOf) ∧ Gr w w' := by
  unfold maxLen at hcm
  obtain ⟨ii, hii, hz0, hz1, hz2⟩ := info_parts sl_info_ki
  have HX := Lib.hid hs
  clear hs
  go_enter Try.func35, Try.ntmps35
  go_wp2
  go_loopw [3, 8] (fun v i wr => ∃ (k : Nat) (A' : Option Addr) (cap' : Nat), k ≤ xs.length ∧ i = .int .i64 (k : Nat) ∧ v = .slice A' k cap' ∧ Hid (Gr w wr ∧ Own wr w.heap.size 61 2 kiCell A' cap' ((xs.take k).map kiOf))) (fun _ i _ => xs.length - (intOf i).toNat)
  case atStart => exact ⟨0, none, 0, by omega, rfl, rfl, Gr.refl _, Own.nil _ _ _ _ _⟩
  case round =>
    obtain ⟨k, A', cap', hk, rfl, rfl, HR⟩ := hrel
    by_cases hlt : k < xs.length
    · rcases HX.out with h0 | ⟨a, off, rfl, hcell⟩
      · subst h0; simp at hlt
      · have hget := List.getElem?_eq_getElem hlt
        have HTK : Hid ((xs.take (k + 1)).map kiOf = (xs.take k).map kiOf ++ [kiOf xs[k]]) := by unfold Hid; rw [List.take_succ_eq_append_getElem hlt, List.map_append]; rfl
        have hlk : ((xs.take k).map kiOf).length = k := by rw [List.length_map, List.length_take]; omega
        generalize xs[k] = x at *
        obtain ⟨e0, e1, e2, e3⟩ := x
        have a0 := HR.out.1.cells (hcell k _ hget 0 _ rfl)
        have a1 := HR.out.1.cells (hcell k _ hget 1 _ rfl)
        have a2 := HR.out.1.cells (hcell k _ hget 2 _ rfl)
        have a3 := HR.out.1.cells (hcell k _ hget 3 _ rfl)
        simp only [Nat.add_zero] at a0
        have HC := Lib.hid (And.intro hcell hget)
        clear hcell hget
        obtain ⟨ys, hys⟩ : ∃ ys, ys = (xs.take k).map kiOf := ⟨_, rfl⟩
        rw [← hys] at HR HTK hlk
        have HYS := Lib.hid hys
        clear hys
        subst hlk
        have HENC : Hid (kiCell (kiOf (e0, e1, e2, e3)) = [.string e0, .int .u32 (e2 : Nat)]) := rfl
        have HO := Lib.hid ((HR.out.2.gr ((Gr.refl wr).alloc (.cells #[.string e0, .string e1, .int .u32 (e2 : Nat), .int .u32 (e3 : Nat)] 59))).gr ((Gr.refl _).alloc (.cells #[.string e0, .int .u32 (e2 : Nat)] 61)))
        have HG : Hid (Gr w ((wr.alloc (.cells #[.string e0, .string e1, .int .u32 (e2 : Nat), .int .u32 (e3 : Nat)] 59)).alloc (.cells #[.string e0, .int .u32 (e2 : Nat)] 61))) := (HR.out.1.alloc _).alloc _
        have HN := Lib.hid (heap_alloc_last (wr.alloc (.cells #[.string e0, .string e1, .int .u32 (e2 : Nat), .int .u32 (e3 : Nat)] 59)) (.cells #[.string e0, .int .u32 (e2 : Nat)] 61))
        have HZ : Hid (w.heap.size ≤ ((wr.alloc (.cells #[.string e0, .string e1, .int .u32 (e2 : Nat), .int .u32 (e3 : Nat)] 59)).alloc (.cells #[.string e0, .int .u32 (e2 : Nat)] 61)).heap.size) := HG.out.size
        rw [alloc_size] at HN
        go_wp2_with (at_builtin; refine wpList_append_lies _ rfl _ _ 25 rfl w.heap.size 61 ii _ 2 24 Try.underlying25 hii hz0 hz1 hz2 rfl (by omega) (.slice A' ys.length cap') ys.length (ys.flatMap kiCell) rfl HO.out ⟨wr.heap.size + 1, 0, none⟩ 1 1 [.string e0, .int .u32 (e2 : Nat)] rfl rfl (World.news_of_block (cs := #[.string e0, .int .u32 (e2 : Nat)]) HN.out) (fun u hu => by simp at hu; rcases hu with rfl | rfl <;> rfl) (by omega) (by unfold maxLen; omega) (by omega) HZ.out _ rfl ?_; intro gg cc v5 hown hgrow hat hlt5)
        have HT : Hid (Gr w v5 ∧ Own v5 w.heap.size 61 2 kiCell (some ⟨gg, 0, none⟩) cc ((xs.take (ys.length + 1)).map kiOf)) := by
          refine ⟨HO.out.grown hgrow HG.out (Nat.le_refl _), ?_⟩
          rw [HTK.out]
          exact Own.push _ (by rw [HENC.out]; exact hown)
        clear hown hgrow hat HO HZ HN HG
        go_roundw
        case rel => exact ⟨ys.length + 1, _, _, by omega, by go_num, by go_num, HT⟩
        case measure => simp [intOf]; omega
    · obtain rfl : k = xs.length := by omega
      rw [List.take_length] at HR
      go_wp2
      go_ret
      exact ⟨_, _, by rw [List.length_map]; rfl, HR.out.2, HR.out.1⟩
theorem law_cells (A : Option Addr) (cap : Nat) (xs : List Ki) (hcap : xs.length ≤ cap) (hcm : cap ≤ maxLen) (hl : xs.length ≤ 4000) (w : World) (hs : SliceAt w A 2 kiCell xs) :
    Calls Try.prog 43 #[.slice A xs.length cap] w fun r w' => ∃ A' cap', r = .returned (.slice A' (xs.map ceOf).length cap') ∧ Own w' w.heap.size 59 4 ceCell A' cap' (xs.map ceOf) ∧ Gr w w' := by
  unfold maxLen at hcm
  obtain ⟨ii, hii, hz0, hz1, hz2⟩ := info_parts sl_info_ce
  have HX := Lib.hid hs
  clear hs
  go_enter Try.func43, Try.ntmps43
  go_wp2
  go_loopw [3, 8] (fun v i wr => ∃ (k : Nat) (A' : Option Addr) (cap' : Nat), k ≤ xs.length ∧ i = .int .i64 (k : Nat) ∧ v = .slice A' k cap' ∧ Hid (Gr w wr ∧ Own wr w.heap.size 59 4 ceCell A' cap' ((xs.take k).map ceOf))) (fun _ i _ => xs.length - (intOf i).toNat)
  case atStart => exact ⟨0, none, 0, by omega, rfl, rfl, Gr.refl _, Own.nil _ _ _ _ _⟩
  case round =>
    obtain ⟨k, A', cap', hk, rfl, rfl, HR⟩ := hrel
    by_cases hlt : k < xs.length
    · rcases HX.out with h0 | ⟨a, off, rfl, hcell⟩
      · subst h0; simp at hlt
      · have hget := List.getElem?_eq_getElem hlt
        have HTK : Hid ((xs.take (k + 1)).map ceOf = (xs.take k).map ceOf ++ [ceOf xs[k]]) := by unfold Hid; rw [List.take_succ_eq_append_getElem hlt, List.map_append]; rfl
        have hlk : ((xs.take k).map ceOf).length = k := by rw [List.length_map, List.length_take]; omega
        generalize xs[k] = x at *
        obtain ⟨e0, e1⟩ := x
        have a0 := HR.out.1.cells (hcell k _ hget 0 _ rfl)
        have a1 := HR.out.1.cells (hcell k _ hget 1 _ rfl)
        simp only [Nat.add_zero] at a0
        have HC := Lib.hid (And.intro hcell hget)
        clear hcell hget
        obtain ⟨ys, hys⟩ : ∃ ys, ys = (xs.take k).map ceOf := ⟨_, rfl⟩
        rw [← hys] at HR HTK hlk
        have HYS := Lib.hid hys
        clear hys
        subst hlk
        have HENC : Hid (ceCell (ceOf (e0, e1)) = [.string e0, .string { data := #[] }, .int .u32 (e1 : Nat), .int .u32 0]) := rfl
        have HO := Lib.hid ((HR.out.2.gr ((Gr.refl wr).alloc (.cells #[.string e0, .int .u32 (e1 : Nat)] 61))).gr ((Gr.refl _).alloc (.cells #[.string e0, .string { data := #[] }, .int .u32 (e1 : Nat), .int .u32 0] 59)))
        have HG : Hid (Gr w ((wr.alloc (.cells #[.string e0, .int .u32 (e1 : Nat)] 61)).alloc (.cells #[.string e0, .string { data := #[] }, .int .u32 (e1 : Nat), .int .u32 0] 59))) := (HR.out.1.alloc _).alloc _
        have HN := Lib.hid (heap_alloc_last (wr.alloc (.cells #[.string e0, .int .u32 (e1 : Nat)] 61)) (.cells #[.string e0, .string { data := #[] }, .int .u32 (e1 : Nat), .int .u32 0] 59))
        have HZ : Hid (w.heap.size ≤ ((wr.alloc (.cells #[.string e0, .int .u32 (e1 : Nat)] 61)).alloc (.cells #[.string e0, .string { data := #[] }, .int .u32 (e1 : Nat), .int .u32 0] 59)).heap.size) := HG.out.size
        rw [alloc_size] at HN
        go_wp2_with (at_builtin; refine wpList_append_lies _ rfl _ _ 22 rfl w.heap.size 59 ii _ 4 40 Try.underlying22 hii hz0 hz1 hz2 rfl (by omega) (.slice A' ys.length cap') ys.length (ys.flatMap ceCell) rfl HO.out ⟨wr.heap.size + 1, 0, none⟩ 1 1 [.string e0, .string { data := #[] }, .int .u32 (e1 : Nat), .int .u32 0] rfl rfl (World.news_of_block (cs := #[.string e0, .string { data := #[] }, .int .u32 (e1 : Nat), .int .u32 0]) HN.out) (fun u hu => by simp at hu; rcases hu with rfl | rfl | rfl | rfl <;> rfl) (by omega) (by unfold maxLen; omega) (by omega) HZ.out _ rfl ?_; intro gg cc v5 hown hgrow hat hlt5)
        have HT : Hid (Gr w v5 ∧ Own v5 w.heap.size 59 4 ceCell (some ⟨gg, 0, none⟩) cc ((xs.take (ys.length + 1)).map ceOf)) := by
          refine ⟨HO.out.grown hgrow HG.out (Nat.le_refl _), ?_⟩
          rw [HTK.out]
          exact Own.push _ (by rw [HENC.out]; exact hown)
        clear hown hgrow hat HO HZ HN HG
        go_roundw
        case rel => exact ⟨ys.length + 1, _, _, by omega, by go_num, by go_num, HT⟩
        case measure => simp [intOf]; omega
    · obtain rfl : k = xs.length := by omega
      rw [List.take_length] at HR
      go_wp2
      go_ret
      exact ⟨_, _, by rw [List.length_map]; rfl, HR.out.2, HR.out.1⟩
end Go.Proofs.Ytmpmfgkabjedpaa
