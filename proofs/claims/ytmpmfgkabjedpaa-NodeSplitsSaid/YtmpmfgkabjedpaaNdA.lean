/- Layer 10: From, To. -/
import Derived.Test.YtmpmfgkabjedpaaSlLaw2
import Derived.Test.YtmpmfgkabjedpaaSlRef5
namespace Go.Proofs.Ytmpmfgkabjedpaa
open Go.RowKit
set_option linter.unusedVariables false
set_option linter.unusedSimpArgs false
set_option maxRecDepth 100000
set_option maxHeartbeats 2000000
theorem nd_from_leaf (A : Option Addr) (n cap : Nat) (w : World) :
    Calls Try.prog 9 #[.bool true, .slice A n cap] w fun r w' => r = .returned (.agg #[.bool true, .slice A n cap, .slice none 0 0]) ∧ Gr w w' := by
  have HW : Hid (Gr w (w.alloc (.cells #[.bool true, .slice A n cap, .slice none 0 0] 27))) := (Gr.refl w).alloc _
  go_enter Try.func9, Try.ntmps9
  go_wp2
  refine bodyPost_ret (results_cell_row rfl _ _ w.heap.size _ #[.bool true, .slice A n cap, .slice none 0 0] (0, 0) (.struct _) rfl (heap_alloc_last _ _) Try.underlying27 rfl (by kernel_rfl)) rfl ⟨rfl, HW.out⟩
theorem nd_from_kids (A : Option Addr) (cap : Nat) (xs : List Ce) (hcap : xs.length ≤ cap) (hcm : cap ≤ maxLen) (hl : xs.length ≤ 4000) (w : World) (hs : SliceAt w A 4 ceCell xs) :
    Calls Try.prog 9 #[.bool false, .slice A xs.length cap] w fun r w' => ∃ A' cap', r = .returned (.agg #[.bool false, .slice none 0 0, .slice A' (xs.map kiOf).length cap']) ∧ SliceAt w' A' 2 kiCell (xs.map kiOf) ∧ (xs.map kiOf).length ≤ cap' ∧ cap' ≤ maxLen ∧ Gr w w' := by
  have cK := fun w1 (h : Gr w w1) => Lib.hid (law_kids A cap xs hcap hcm hl w1 (hs.gr h))
  clear hs
  generalize xs.map kiOf = ys at *
  have HW : Hid (Gr w (w.alloc (.cells #[.bool false, .slice none 0 0, .slice none 0 0] 27))) := (Gr.refl w).alloc _
  have hw0 := heap_alloc_last w (.cells #[.bool false, .slice none 0 0, .slice none 0 0] 27)
  have HZ := Lib.hid hw0
  clear hw0
  go_enter Try.func9, Try.ntmps9
  go_wp2_with (go_at_call 35; refine (cK _ HW.out).out.mono ?_; clear cK; rintro r v1 ⟨A', cap', rfl, hown, hg⟩; have hb := (hg.block (lt_of_row HZ.out)).trans HZ.out; have HO := Lib.hid hown; have HG := Lib.hid (HW.out.trans hg); have x0 := row_cell hb 0 _ rfl; have x1 := row_cell hb 1 _ rfl; have x2 := row_cell hb 2 _ rfl; have z0 := frozen_of_row _ _ 0 _ _ hb; have z1 := frozen_of_row _ _ 1 _ _ hb; have z2 := frozen_of_row _ _ 2 _ _ hb; have HB := Lib.hid hb; clear hown hg hb)
  have hlt : ownOf A' ≠ some w.heap.size := fun e => by have := (HO.out.lt e).2; rw [alloc_size] at this; omega
  refine bodyPost_ret (results_cell_row rfl _ _ w.heap.size _ #[.bool false, .slice none 0 0, .slice A' ys.length cap'] (0, 0) (.struct _) rfl (heap_setCell_same _ _ 2 _ _ _ (heap_setCell_same _ _ 1 _ _ _ (heap_setCell_same _ _ 0 _ _ _ HB.out))) Try.underlying27 rfl (by kernel_rfl)) rfl ⟨A', cap', rfl, (HO.out.ch ((((Ch.refl _ v1).setCell 0 _).setCell 1 _).setCell 2 _) hlt).slice (fun _ => rfl), HO.out.cap_le.1, HO.out.cap_le.2, ((((Ch.refl _ v1).setCell 0 _).setCell 1 _).setCell 2 _).gr HG.out (Nat.le_refl _)⟩
theorem nd_to_leaf (A B : Option Addr) (n cap m c2 : Nat) (w : World) :
    Calls Try.prog 11 #[.agg #[.bool true, .slice A n cap, .slice B m c2]] w fun r w' => r = .returned (.agg #[.bool true, .slice A n cap]) ∧ Gr w w' := by
  have HW : Hid (Gr w ((w.alloc (.cells #[.bool true, .slice A n cap, .slice B m c2] 27)).alloc (.cells #[.bool true, .slice A n cap] 32))) := ((Gr.refl w).alloc _).alloc _
  go_enter Try.func11, Try.ntmps11
  go_wp2
  have hw0 := heap_alloc_last (w.alloc (.cells #[.bool true, .slice A n cap, .slice B m c2] 27)) (.cells #[.bool true, .slice A n cap] 32)
  rw [alloc_size] at hw0
  refine bodyPost_ret (results_cell_row rfl _ _ (w.heap.size + 1) _ #[.bool true, .slice A n cap] (0, 0) (.struct _) rfl hw0 Try.underlying32 rfl (by kernel_rfl)) rfl ⟨rfl, HW.out⟩
theorem nd_to_kids (A B : Option Addr) (cap m c2 : Nat) (ys : List Ki) (hcap : ys.length ≤ cap) (hcm : cap ≤ maxLen) (hl : ys.length ≤ 4000) (w : World) (hs : SliceAt w A 2 kiCell ys) :
    Calls Try.prog 11 #[.agg #[.bool false, .slice B m c2, .slice A ys.length cap]] w fun r w' => ∃ A' cap', r = .returned (.agg #[.bool false, .slice A' (ys.map ceOf).length cap']) ∧ SliceAt w' A' 4 ceCell (ys.map ceOf) ∧ (ys.map ceOf).length ≤ cap' ∧ cap' ≤ maxLen ∧ Gr w w' := by
  have cK := fun w1 (h : Gr w w1) => Lib.hid (law_cells A cap ys hcap hcm hl w1 (hs.gr h))
  clear hs
  generalize ys.map ceOf = zs at *
  have HW : Hid (Gr w ((w.alloc (.cells #[.bool false, .slice B m c2, .slice A ys.length cap] 27)).alloc (.cells #[.bool false, .slice none 0 0] 32))) := ((Gr.refl w).alloc _).alloc _
  have hw0 := heap_alloc_last (w.alloc (.cells #[.bool false, .slice B m c2, .slice A ys.length cap] 27)) (.cells #[.bool false, .slice none 0 0] 32)
  rw [alloc_size] at hw0
  have HZ := Lib.hid hw0
  clear hw0
  go_enter Try.func11, Try.ntmps11
  go_wp2_with (go_at_call 43; refine (cK _ HW.out).out.mono ?_; clear cK; rintro r v1 ⟨A', cap', rfl, hown, hg⟩; have hb := (hg.block (lt_of_row HZ.out)).trans HZ.out; have HO := Lib.hid hown; have HG := Lib.hid (HW.out.trans hg); have x0 := row_cell hb 0 _ rfl; have x1 := row_cell hb 1 _ rfl; have z0 := frozen_of_row _ _ 0 _ _ hb; have z1 := frozen_of_row _ _ 1 _ _ hb; have HB := Lib.hid hb; clear hown hg hb)
  have hlt : ownOf A' ≠ some (w.heap.size + 1) := fun e => by have := (HO.out.lt e).2; rw [alloc_size, alloc_size] at this; omega
  refine bodyPost_ret (results_cell_row rfl _ _ (w.heap.size + 1) _ #[.bool false, .slice A' zs.length cap'] (0, 0) (.struct _) rfl (heap_setCell_same _ _ 1 _ _ _ (heap_setCell_same _ _ 0 _ _ _ HB.out)) Try.underlying32 rfl (by kernel_rfl)) rfl ⟨A', cap', rfl, (HO.out.ch (((Ch.refl _ v1).setCell 0 _).setCell 1 _) hlt).slice (fun _ => rfl), HO.out.cap_le.1, HO.out.cap_le.2, (((Ch.refl _ v1).setCell 0 _).setCell 1 _).gr HG.out (Nat.le_succ _)⟩
end Go.Proofs.Ytmpmfgkabjedpaa
