/- Layer 6: the document's Same of two rows of the same cells, and its Find. -/
import Derived.Test.YtmpmfgkabjedpaaMgDo03
import Derived.Test.YtmpmfgkabjedpaaMgDo04
import Derived.Test.YtmpmfgkabjedpaaMgDo10
namespace Go.Proofs.Ytmpmfgkabjedpaa
open Go.RowKit
set_option linter.unusedVariables false
set_option linter.unusedSimpArgs false
set_option maxRecDepth 100000
set_option maxHeartbeats 2000000
theorem rf_same (A1 A2 : Option Addr) (cap1 cap2 : Nat) (xs : List Ce) (h1 : xs.length ≤ cap1) (h2 : xs.length ≤ cap2) (hm1 : cap1 ≤ maxLen) (hm2 : cap2 ≤ maxLen) (w : World) (hs1 : SliceAt w A1 4 ceCell xs) (hs2 : SliceAt w A2 4 ceCell xs) :
    Calls Try.prog 81 #[.slice A1 xs.length cap1, .slice A2 xs.length cap2] w fun r w' => r = .returned (.bool true) ∧ Gr w w' := by
  unfold maxLen at hm1 hm2
  have HX := Lib.hid (And.intro hs1 hs2)
  clear hs1 hs2
  go_enter Try.func81, Try.ntmps81
  go_wp2
  go_loopw [13] (fun i wr => ∃ k : Nat, k ≤ xs.length ∧ i = .int .i64 (k : Nat) ∧ Hid (Gr w wr)) (fun i _ => xs.length - (intOf i).toNat)
  case atStart => exact ⟨0, by omega, rfl, Gr.refl _⟩
  case round =>
    obtain ⟨k, hk, rfl, HR⟩ := hrel
    by_cases hlt : k < xs.length
    · rcases HX.out.1 with h0 | ⟨a, off, rfl, hcell⟩
      · subst h0; simp at hlt
      rcases HX.out.2 with h0 | ⟨a1, off1, rfl, hcell1⟩
      · subst h0; simp at hlt
      have hget := List.getElem?_eq_getElem hlt
      generalize xs[k] = x at *
      obtain ⟨e0, e1, e2, e3⟩ := x
      have a0 := HR.out.cells (hcell k _ hget 0 _ rfl)
      have a1' := HR.out.cells (hcell k _ hget 1 _ rfl)
      have a2 := HR.out.cells (hcell k _ hget 2 _ rfl)
      have a3 := HR.out.cells (hcell k _ hget 3 _ rfl)
      have d0 := HR.out.cells (hcell1 k _ hget 0 _ rfl)
      have d1 := HR.out.cells (hcell1 k _ hget 1 _ rfl)
      have d2 := HR.out.cells (hcell1 k _ hget 2 _ rfl)
      have d3 := HR.out.cells (hcell1 k _ hget 3 _ rfl)
      simp only [Nat.add_zero] at a0 d0
      clear hcell hcell1 hget
      have HT : Hid (Gr w wr.drew) := HR.out.drew
      go_wp2
      go_region
      go_wp2
      go_roundw
      case rel => exact ⟨k + 1, by omega, by go_num, HT⟩
      case measure => simp [intOf]; omega
    · obtain rfl : k = xs.length := by omega
      go_wp2
      go_ret
      exact ⟨rfl, HR.out⟩
theorem fdAt_at {α : Type} {key : α → ByteArray} {xs : List α} {k : ByteArray} {i : Nat} {x : α} (hx : xs[i]? = some x) (h : ∀ (j : Nat) (y : α), j < i → xs[j]? = some y → Op.bytesLess (key y).toList k.toList = true) (hn : Op.bytesLess (key x).toList k.toList = false) : fdAt key xs k = i := by
  obtain ⟨hlt, rfl⟩ := List.getElem?_eq_some_iff.1 hx
  unfold fdAt
  rw [List.findIdx_eq hlt]
  refine ⟨by rw [hn]; rfl, fun j hj => ?_⟩
  rw [h j _ hj (List.getElem?_eq_getElem (by omega))]; rfl
theorem fdAt_end {α : Type} {key : α → ByteArray} {xs : List α} {k : ByteArray} (h : ∀ (j : Nat) (y : α), xs[j]? = some y → Op.bytesLess (key y).toList k.toList = true) : fdAt key xs k = xs.length := by
  unfold fdAt
  rw [List.findIdx_eq_length]
  intro x hx
  obtain ⟨i, hi, rfl⟩ := List.mem_iff_getElem.1 hx
  rw [h i _ (List.getElem?_eq_getElem hi)]; rfl
theorem fdIs_at {α : Type} {key : α → ByteArray} {xs : List α} {k : ByteArray} {i : Nat} {x : α} (h : fdAt key xs k = i) (hx : xs[i]? = some x) : fdIs key xs k = ((key x).toList == k.toList) := by
  unfold fdIs; rw [h, hx]
theorem fdIs_end {α : Type} {key : α → ByteArray} {xs : List α} {k : ByteArray} (h : fdAt key xs k = xs.length) : fdIs key xs k = false := by
  unfold fdIs; rw [h, List.getElem?_eq_none (Nat.le_refl _)]
end Go.Proofs.Ytmpmfgkabjedpaa
namespace Go.Proofs.Ytmpmfgkabjedpaa
open Go.RowKit
set_option linter.unusedVariables false
set_option linter.unusedSimpArgs false
set_option maxRecDepth 100000
set_option maxHeartbeats 2000000
theorem nd_from_leaf (A : Option Addr) (n cap : Nat) (w : World) :
    Calls Try.prog 9 #[.bool true, .slice A n cap] w fun r w' => r = .returned (.agg #[.bool true, .slice A n cap, .slice none 0 0]) ∧ Gr w w' := by
  have HW : Hid (Gr w (w.alloc (.cells #[.bool true, .slice A n cap, .slice none 0 0] 27))) := (Gr.refl w).alloc _
  go_enter Try.func9, Try.ntmps9
  go_wp2
  refine bodyPost_ret (results_cell_row rfl _ _ w.heap.size _ #[.bool true, .slice A n cap, .slice none 0 0] (0, 0) (.struct _) rfl (heap_alloc_last _ _) Try.underlying27 rfl (by kernel_rfl)) rfl ⟨rfl, HW.out⟩
theorem nd_from_kids (A : Option Addr) (cap : Nat) (xs : List Ce) (hcap : xs.length ≤ cap) (hcm : cap ≤ maxLen) (hl : xs.length ≤ 4000) (w : World) (hs : SliceAt w A 4 ceCell xs) :
    Calls Try.prog 9 #[.bool false, .slice A xs.length cap] w fun r w' => ∃ A' cap', r = .returned (.agg #[.bool false, .slice none 0 0, .slice A' (xs.map kiOf).length cap']) ∧ SliceAt w' A' 2 kiCell (xs.map kiOf) ∧ (xs.map kiOf).length ≤ cap' ∧ cap' ≤ maxLen ∧ Gr w w' := by
  have cK := fun w1 (h : Gr w w1) => Lib.hid (law_kids A cap xs hcap hcm hl w1 (hs.gr h))
  clear hs
  generalize xs.map kiOf = ys at *
  have HW : Hid (Gr w (w.alloc (.cells #[.bool false, .slice none 0 0, .slice none 0 0] 27))) := (Gr.refl w).alloc _
  have hw0 := heap_alloc_last w (.cells #[.bool false, .slice none 0 0, .slice none 0 0] 27)
  have HZ := Lib.hid hw0
  clear hw0
  go_enter Try.func9, Try.ntmps9
  go_wp2_with (go_at_call 35; refine (cK _ HW.out).out.mono ?_; clear cK; rintro r v1 ⟨A', cap', rfl, hown, hg⟩; have hb := (hg.block (lt_of_row HZ.out)).trans HZ.out; have HO := Lib.hid hown; have HG := Lib.hid (HW.out.trans hg); have x0 := row_cell hb 0 _ rfl; have x1 := row_cell hb 1 _ rfl; have x2 := row_cell hb 2 _ rfl; have z0 := frozen_of_row _ _ 0 _ _ hb; have z1 := frozen_of_row _ _ 1 _ _ hb; have z2 := frozen_of_row _ _ 2 _ _ hb; have HB := Lib.hid hb; clear hown hg hb)
  have hlt : ownOf A' ≠ some w.heap.size := fun e => by have := (HO.out.lt e).2; rw [alloc_size] at this; omega
  refine bodyPost_ret (results_cell_row rfl _ _ w.heap.size _ #[.bool false, .slice none 0 0, .slice A' ys.length cap'] (0, 0) (.struct _) rfl (heap_setCell_same _ _ 2 _ _ _ (heap_setCell_same _ _ 1 _ _ _ (heap_setCell_same _ _ 0 _ _ _ HB.out))) Try.underlying27 rfl (by kernel_rfl)) rfl ⟨A', cap', rfl, (HO.out.ch ((((Ch.refl _ v1).setCell 0 _).setCell 1 _).setCell 2 _) hlt).slice (fun _ => rfl), HO.out.cap_le.1, HO.out.cap_le.2, ((((Ch.refl _ v1).setCell 0 _).setCell 1 _).setCell 2 _).gr HG.out (Nat.le_refl _)⟩
theorem nd_to_leaf (A B : Option Addr) (n cap m c2 : Nat) (w : World) :
    Calls Try.prog 11 #[.agg #[.bool true, .slice A n cap, .slice B m c2]] w fun r w' => r = .returned (.agg #[.bool true, .slice A n cap]) ∧ Gr w w' := by
  have HW : Hid (Gr w ((w.alloc (.cells #[.bool true, .slice A n cap, .slice B m c2] 27)).alloc (.cells #[.bool true, .slice A n cap] 32))) := ((Gr.refl w).alloc _).alloc _
  go_enter Try.func11, Try.ntmps11
  go_wp2
  have hw0 := heap_alloc_last (w.alloc (.cells #[.bool true, .slice A n cap, .slice B m c2] 27)) (.cells #[.bool true, .slice A n cap] 32)
  rw [alloc_size] at hw0
  refine bodyPost_ret (results_cell_row rfl _ _ (w.heap.size + 1) _ #[.bool true, .slice A n cap] (0, 0) (.struct _) rfl hw0 Try.underlying32 rfl (by kernel_rfl)) rfl ⟨rfl, HW.out⟩
theorem nd_to_kids (A B : Option Addr) (cap m c2 : Nat) (ys : List Ki) (hcap : ys.length ≤ cap) (hcm : cap ≤ maxLen) (hl : ys.length ≤ 4000) (w : World) (hs : SliceAt w A 2 kiCell ys) :
    Calls Try.prog 11 #[.agg #[.bool false, .slice B m c2, .slice A ys.length cap]] w fun r w' => ∃ A' cap', r = .returned (.agg #[.bool false, .slice A' (ys.map ceOf).length cap']) ∧ SliceAt w' A' 4 ceCell (ys.map ceOf) ∧ (ys.map ceOf).length ≤ cap' ∧ cap' ≤ maxLen ∧ Gr w w' := by
  have cK := fun w1 (h : Gr w w1) => Lib.hid (law_cells A cap ys hcap hcm hl w1 (hs.gr h))
  clear hs
  generalize ys.map ceOf = zs at *
  have HW : Hid (Gr w ((w.alloc (.cells #[.bool false, .slice B m c2, .slice A ys.length cap] 27)).alloc (.cells #[.bool false, .slice none 0 0] 32))) := ((Gr.refl w).alloc _).alloc _
  have hw0 := heap_alloc_last (w.alloc (.cells #[.bool false, .slice B m c2, .slice A ys.length cap] 27)) (.cells #[.bool false, .slice none 0 0] 32)
  rw [alloc_size] at hw0
  have HZ := Lib.hid hw0
  clear hw0
  go_enter Try.func11, Try.ntmps11
  go_wp2_with (go_at_call 43; refine (cK _ HW.out).out.mono ?_; clear cK; rintro r v1 ⟨A', cap', rfl, hown, hg⟩; have hb := (hg.block (lt_of_row HZ.out)).trans HZ.out; have HO := Lib.hid hown; have HG := Lib.hid (HW.out.trans hg); have x0 := row_cell hb 0 _ rfl; have x1 := row_cell hb 1 _ rfl; have z0 := frozen_of_row _ _ 0 _ _ hb; have z1 := frozen_of_row _ _ 1 _ _ hb; have HB := Lib.hid hb; clear hown hg hb)
  have hlt : ownOf A' ≠ some (w.heap.size + 1) := fun e => by have := (HO.out.lt e).2; rw [alloc_size, alloc_size] at this; omega
  refine bodyPost_ret (results_cell_row rfl _ _ (w.heap.size + 1) _ #[.bool false, .slice A' zs.length cap'] (0, 0) (.struct _) rfl (heap_setCell_same _ _ 1 _ _ _ (heap_setCell_same _ _ 0 _ _ _ HB.out)) Try.underlying32 rfl (by kernel_rfl)) rfl ⟨A', cap', rfl, (HO.out.ch (((Ch.refl _ v1).setCell 0 _).setCell 1 _) hlt).slice (fun _ => rfl), HO.out.cap_le.1, HO.out.cap_le.2, (((Ch.refl _ v1).setCell 0 _).setCell 1 _).gr HG.out (Nat.le_succ _)⟩
end Go.Proofs.Ytmpmfgkabjedpaa
namespace Go.Proofs.Ytmpmfgkabjedpaa
open Go.RowKit
set_option linter.unusedVariables false
set_option linter.unusedSimpArgs false
set_option maxRecDepth 100000
set_option maxHeartbeats 2000000
theorem lf_equal (A1 A2 : Option Addr) (cap1 cap2 : Nat) (xs : List Ce) (h1 : xs.length ≤ cap1) (h2 : xs.length ≤ cap2) (hm1 : cap1 ≤ maxLen) (hm2 : cap2 ≤ maxLen) (w : World) (hs1 : SliceAt w A1 4 ceCell xs) (hs2 : SliceAt w A2 4 ceCell xs) :
    Calls Try.prog 48 #[.slice A1 xs.length cap1, .slice A2 xs.length cap2] w fun r w' => r = .returned (.bool true) ∧ Gr w w' := by
  unfold maxLen at hm1 hm2
  have HX := Lib.hid (And.intro hs1 hs2)
  clear hs1 hs2
  go_enter Try.func48, Try.ntmps48
  go_wp2
  go_loopw [13] (fun i wr => ∃ k : Nat, k ≤ xs.length ∧ i = .int .i64 (k : Nat) ∧ Hid (Gr w wr)) (fun i _ => xs.length - (intOf i).toNat)
  case atStart => exact ⟨0, by omega, rfl, Gr.refl _⟩
  case round =>
    obtain ⟨k, hk, rfl, HR⟩ := hrel
    by_cases hlt : k < xs.length
    · rcases HX.out.1 with h0 | ⟨a, off, rfl, hcell⟩
      · subst h0; simp at hlt
      rcases HX.out.2 with h0 | ⟨a1, off1, rfl, hcell1⟩
      · subst h0; simp at hlt
      have hget := List.getElem?_eq_getElem hlt
      generalize xs[k] = x at *
      obtain ⟨e0, e1, e2, e3⟩ := x
      have a0 := HR.out.cells (hcell k _ hget 0 _ rfl)
      have d0 := HR.out.cells (hcell1 k _ hget 0 _ rfl)
      have a1 := HR.out.cells (hcell k _ hget 1 _ rfl)
      have d1 := HR.out.cells (hcell1 k _ hget 1 _ rfl)
      have a2 := HR.out.cells (hcell k _ hget 2 _ rfl)
      have d2 := HR.out.cells (hcell1 k _ hget 2 _ rfl)
      have a3 := HR.out.cells (hcell k _ hget 3 _ rfl)
      have d3 := HR.out.cells (hcell1 k _ hget 3 _ rfl)
      simp only [Nat.add_zero] at a0 d0
      clear hcell hcell1 hget
      have HT : Hid (Gr w wr.drew) := HR.out.drew
      go_wp2
      go_region
      go_wp2
      go_roundw
      case rel => exact ⟨k + 1, by omega, by go_num, HT⟩
      case measure => simp [intOf]; omega
    · obtain rfl : k = xs.length := by omega
      go_wp2
      go_ret
      exact ⟨rfl, HR.out⟩
end Go.Proofs.Ytmpmfgkabjedpaa
namespace Go.Proofs.Ytmpmfgkabjedpaa
open Go.RowKit
set_option linter.unusedVariables false
set_option linter.unusedSimpArgs false
set_option maxRecDepth 100000
set_option maxHeartbeats 2000000
theorem ki_equal (A1 A2 : Option Addr) (cap1 cap2 : Nat) (xs : List Ki) (h1 : xs.length ≤ cap1) (h2 : xs.length ≤ cap2) (hm1 : cap1 ≤ maxLen) (hm2 : cap2 ≤ maxLen) (w : World) (hs1 : SliceAt w A1 2 kiCell xs) (hs2 : SliceAt w A2 2 kiCell xs) :
    Calls Try.prog 49 #[.slice A1 xs.length cap1, .slice A2 xs.length cap2] w fun r w' => r = .returned (.bool true) ∧ Gr w w' := by
  unfold maxLen at hm1 hm2
  have HX := Lib.hid (And.intro hs1 hs2)
  clear hs1 hs2
  go_enter Try.func49, Try.ntmps49
  go_wp2
  go_loopw [13] (fun i wr => ∃ k : Nat, k ≤ xs.length ∧ i = .int .i64 (k : Nat) ∧ Hid (Gr w wr)) (fun i _ => xs.length - (intOf i).toNat)
  case atStart => exact ⟨0, by omega, rfl, Gr.refl _⟩
  case round =>
    obtain ⟨k, hk, rfl, HR⟩ := hrel
    by_cases hlt : k < xs.length
    · rcases HX.out.1 with h0 | ⟨a, off, rfl, hcell⟩
      · subst h0; simp at hlt
      rcases HX.out.2 with h0 | ⟨a1, off1, rfl, hcell1⟩
      · subst h0; simp at hlt
      have hget := List.getElem?_eq_getElem hlt
      generalize xs[k] = x at *
      obtain ⟨e0, e1⟩ := x
      have a0 := HR.out.cells (hcell k _ hget 0 _ rfl)
      have d0 := HR.out.cells (hcell1 k _ hget 0 _ rfl)
      have a1 := HR.out.cells (hcell k _ hget 1 _ rfl)
      have d1 := HR.out.cells (hcell1 k _ hget 1 _ rfl)
      simp only [Nat.add_zero] at a0 d0
      clear hcell hcell1 hget
      have HT : Hid (Gr w wr.drew) := HR.out.drew
      go_wp2
      go_region
      go_wp2
      go_roundw
      case rel => exact ⟨k + 1, by omega, by go_num, HT⟩
      case measure => simp [intOf]; omega
    · obtain rfl : k = xs.length := by omega
      go_wp2
      go_ret
      exact ⟨rfl, HR.out⟩
end Go.Proofs.Ytmpmfgkabjedpaa
