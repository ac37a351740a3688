/- Layer 10: a leaf, a branch, the document's node, as lists; From, To, Same so. -/
import Derived.Test.YtmpmfgkabjedpaaNdA
import Derived.Test.YtmpmfgkabjedpaaNdEqL
import Derived.Test.YtmpmfgkabjedpaaNdEqK
import Derived.Test.YtmpmfgkabjedpaaNdHalfL
import Derived.Test.YtmpmfgkabjedpaaNdHalfK
import Derived.Test.YtmpmfgkabjedpaaNdCatL
import Derived.Test.YtmpmfgkabjedpaaNdCatK
namespace Go.Proofs.Ytmpmfgkabjedpaa
open Go.RowKit
set_option linter.unusedVariables false
set_option linter.unusedSimpArgs false
set_option maxRecDepth 100000
set_option maxHeartbeats 2000000
def LfAt (w : World) (v : Value) (xs : List Ce) : Prop := ∃ A cap, v = .agg #[.bool true, .slice A xs.length cap, .slice none 0 0] ∧ SliceAt w A 4 ceCell xs ∧ xs.length ≤ cap ∧ cap ≤ maxLen
def KiAt (w : World) (v : Value) (ys : List Ki) : Prop := ∃ A cap, v = .agg #[.bool false, .slice none 0 0, .slice A ys.length cap] ∧ SliceAt w A 2 kiCell ys ∧ ys.length ≤ cap ∧ cap ≤ maxLen
def RfAt (w : World) (leaf : Bool) (v : Value) (zs : List Ce) : Prop := ∃ A cap, v = .agg #[.bool leaf, .slice A zs.length cap] ∧ SliceAt w A 4 ceCell zs ∧ zs.length ≤ cap ∧ cap ≤ maxLen
section
variable {w w' : World} {v : Value} {leaf : Bool} {xs : List Ce} {ys : List Ki}
theorem LfAt.gr (h : LfAt w v xs) (hg : Gr w w') : LfAt w' v xs := by
  obtain ⟨A, cap, rfl, hs, h1, h2⟩ := h; exact ⟨A, cap, rfl, hs.gr hg, h1, h2⟩
theorem KiAt.gr (h : KiAt w v ys) (hg : Gr w w') : KiAt w' v ys := by
  obtain ⟨A, cap, rfl, hs, h1, h2⟩ := h; exact ⟨A, cap, rfl, hs.gr hg, h1, h2⟩
theorem RfAt.gr (h : RfAt w leaf v xs) (hg : Gr w w') : RfAt w' leaf v xs := by
  obtain ⟨A, cap, rfl, hs, h1, h2⟩ := h; exact ⟨A, cap, rfl, hs.gr hg, h1, h2⟩
end
theorem nd_fromL (A : Option Addr) (cap : Nat) (xs : List Ce) (hcap : xs.length ≤ cap) (hcm : cap ≤ maxLen) (w : World) (hs : SliceAt w A 4 ceCell xs) :
    Calls Try.prog 9 #[.bool true, .slice A xs.length cap] w fun r w' => ∃ v, r = .returned v ∧ LfAt w' v xs ∧ Gr w w' := by
  refine (nd_from_leaf A xs.length cap w).mono ?_
  rintro r w' ⟨rfl, hg⟩
  exact ⟨_, rfl, ⟨A, cap, rfl, hs.gr hg, hcap, hcm⟩, hg⟩
theorem nd_fromK (A : Option Addr) (cap : Nat) (xs : List Ce) (hcap : xs.length ≤ cap) (hcm : cap ≤ maxLen) (hl : xs.length ≤ 4000) (w : World) (hs : SliceAt w A 4 ceCell xs) :
    Calls Try.prog 9 #[.bool false, .slice A xs.length cap] w fun r w' => ∃ v, r = .returned v ∧ KiAt w' v (xs.map kiOf) ∧ Gr w w' := by
  refine (nd_from_kids A cap xs hcap hcm hl w hs).mono ?_
  rintro r w' ⟨A', cap', rfl, h1, h2, h3, hg⟩
  exact ⟨_, rfl, ⟨A', cap', rfl, h1, h2, h3⟩, hg⟩
theorem nd_toL (v : Value) (xs : List Ce) (w : World) (h : LfAt w v xs) :
    Calls Try.prog 11 #[v] w fun r w' => ∃ u, r = .returned u ∧ RfAt w' true u xs ∧ Gr w w' := by
  obtain ⟨A, cap, rfl, hs, h1, h2⟩ := h
  refine (nd_to_leaf A none xs.length cap 0 0 w).mono ?_
  rintro r w' ⟨rfl, hg⟩
  exact ⟨_, rfl, ⟨A, cap, rfl, hs.gr hg, h1, h2⟩, hg⟩
theorem nd_toK (v : Value) (ys : List Ki) (hl : ys.length ≤ 4000) (w : World) (h : KiAt w v ys) :
    Calls Try.prog 11 #[v] w fun r w' => ∃ u, r = .returned u ∧ RfAt w' false u (ys.map ceOf) ∧ Gr w w' := by
  obtain ⟨A, cap, rfl, hs, h1, h2⟩ := h
  refine (nd_to_kids A none cap 0 0 ys h1 h2 hl w hs).mono ?_
  rintro r w' ⟨A', cap', rfl, k1, k2, k3, hg⟩
  exact ⟨_, rfl, ⟨A', cap', rfl, k1, k2, k3⟩, hg⟩
theorem rf_sameN (leaf : Bool) (v u : Value) (zs : List Ce) (w : World) (hv : RfAt w leaf v zs) (hu : RfAt w leaf u zs) :
    Calls Try.prog 45 #[v, u] w fun r w' => r = .returned (.bool true) ∧ Gr w w' := by
  obtain ⟨A, c1, rfl, hs1, h1, h2⟩ := hv
  obtain ⟨B, c2, rfl, hs2, k1, k2⟩ := hu
  have cS := fun w1 (h : Gr w w1) => Lib.hid (rf_same A B c1 c2 zs h1 k1 h2 k2 w1 (hs1.gr h) (hs2.gr h))
  clear hs1 hs2
  unfold maxLen at *
  have HW : Hid (Gr w ((w.alloc (.cells #[.bool leaf, .slice A zs.length c1] 32)).alloc (.cells #[.bool leaf, .slice B zs.length c2] 32))) := ((Gr.refl w).alloc _).alloc _
  go_enter Try.func45, Try.ntmps45
  go_wp2_with (go_at_call 81; refine (cS _ HW.out).out.mono ?_; clear cS; rintro r v1 ⟨rfl, hg⟩; have HG := Lib.hid (HW.out.trans hg); clear hg)
  go_ret
  exact ⟨rfl, HG.out⟩
theorem nd_samL (v u : Value) (xs : List Ce) (w : World) (hv : LfAt w v xs) (hu : RfAt w true u xs) :
    Calls Try.prog 13 #[v, u] w fun r w' => r = .returned (.bool true) ∧ Gr w w' := by
  have cT := fun w1 (h : Gr w w1) => Lib.hid (nd_toL v xs w1 (hv.gr h))
  have HU := Lib.hid hu
  obtain ⟨A, c1, rfl, hs1, h1, h2⟩ := hv
  obtain ⟨B, c2, rfl, hs2, k1, k2⟩ := hu
  clear hs1 hs2 h1 h2 k1 k2
  have hw1 := heap_alloc_last (w.alloc (.cells #[.bool true, .slice A xs.length c1, .slice none 0 0] 27)) (.cells #[.bool true, .slice B xs.length c2] 32)
  rw [alloc_size] at hw1
  have hw0 := (((Gr.refl (w.alloc (.cells #[.bool true, .slice A xs.length c1, .slice none 0 0] 27))).alloc (.cells #[.bool true, .slice B xs.length c2] 32)).block (k := w.heap.size) (by rw [alloc_size]; omega)).trans (heap_alloc_last w (.cells #[.bool true, .slice A xs.length c1, .slice none 0 0] 27))
  have HW : Hid (Gr w ((w.alloc (.cells #[.bool true, .slice A xs.length c1, .slice none 0 0] 27)).alloc (.cells #[.bool true, .slice B xs.length c2] 32)).drew) := (((Gr.refl w).alloc _).alloc _).drew
  have HQ : Hid (Gr w ((w.alloc (.cells #[.bool true, .slice A xs.length c1, .slice none 0 0] 27)).alloc (.cells #[.bool true, .slice B xs.length c2] 32)).drew) := HW
  go_enter Try.func13, Try.ntmps13
  go_wp2
  have x0 := row_cell hw0 0 _ rfl
  have x1 := row_cell hw0 1 _ rfl
  have x2 := row_cell hw0 2 _ rfl
  have y0 := row_cell hw1 0 _ rfl
  have y1 := row_cell hw1 1 _ rfl
  clear hw0 hw1 HQ
  generalize (w.alloc (.cells #[.bool true, .slice A xs.length c1, .slice none 0 0] 27)).alloc (.cells #[.bool true, .slice B xs.length c2] 32) = W at *
  generalize w.heap.size = b at *
  have HQ := Lib.hid (And.intro x0 (And.intro x1 (And.intro x2 (And.intro y0 y1))))
  go_region_held3 (fun w' => w'.cell? ⟨b, 0, none⟩ = some (.bool true) ∧ w'.cell? ⟨b, 1, none⟩ = some (.slice A xs.length c1) ∧ w'.cell? ⟨b, 2, none⟩ = some (.slice none 0 0) ∧ w'.cell? ⟨b + 1, 0, none⟩ = some (.bool true) ∧ w'.cell? ⟨b + 1, 1, none⟩ = some (.slice B xs.length c2)) (first | exact HQ.out | assumption)
    (first
      | (go_at_call 11; refine (cT _ HW.out).out.mono ?_; clear cT; rintro r v1 ⟨q, rfl, hq, hg⟩; have HQ1 := Lib.hid hq; have HG := Lib.hid (HW.out.trans hg); have HD := Lib.hid ((Gr.refl W).drew.trans hg); have HQ := Lib.hid (And.intro (HD.out.cells x0) (And.intro (HD.out.cells x1) (And.intro (HD.out.cells x2) (And.intro (HD.out.cells y0) (HD.out.cells y1))))); clear hg hq)
      | (go_at_call 45; refine (rf_sameN true _ _ xs _ HQ1.out (HU.out.gr HG.out)).mono ?_; rintro r v2 ⟨rfl, hg⟩; have HG2 := Lib.hid (HG.out.trans hg); have HQ := Lib.hid (And.intro (hg.cells HQ.out.1) (And.intro (hg.cells HQ.out.2.1) (And.intro (hg.cells HQ.out.2.2.1) (And.intro (hg.cells HQ.out.2.2.2.1) (hg.cells HQ.out.2.2.2.2))))); clear hg))
  go_wp2
  go_ret
  exact ⟨rfl, HG2.out⟩
theorem nd_samK (v u : Value) (ys : List Ki) (hl : ys.length ≤ 4000) (w : World) (hv : KiAt w v ys) (hu : RfAt w false u (ys.map ceOf)) :
    Calls Try.prog 13 #[v, u] w fun r w' => r = .returned (.bool true) ∧ Gr w w' := by
  have cT := fun w1 (h : Gr w w1) => Lib.hid (nd_toK v ys hl w1 (hv.gr h))
  have HU := Lib.hid hu
  generalize ys.map ceOf = zs at *
  obtain ⟨A, c1, rfl, hs1, h1, h2⟩ := hv
  obtain ⟨B, c2, rfl, hs2, k1, k2⟩ := hu
  clear hs1 hs2 h1 h2 k1 k2
  have hw1 := heap_alloc_last (w.alloc (.cells #[.bool false, .slice none 0 0, .slice A ys.length c1] 27)) (.cells #[.bool false, .slice B zs.length c2] 32)
  rw [alloc_size] at hw1
  have hw0 := (((Gr.refl (w.alloc (.cells #[.bool false, .slice none 0 0, .slice A ys.length c1] 27))).alloc (.cells #[.bool false, .slice B zs.length c2] 32)).block (k := w.heap.size) (by rw [alloc_size]; omega)).trans (heap_alloc_last w (.cells #[.bool false, .slice none 0 0, .slice A ys.length c1] 27))
  have HW : Hid (Gr w ((w.alloc (.cells #[.bool false, .slice none 0 0, .slice A ys.length c1] 27)).alloc (.cells #[.bool false, .slice B zs.length c2] 32)).drew) := (((Gr.refl w).alloc _).alloc _).drew
  have HQ : Hid (Gr w ((w.alloc (.cells #[.bool false, .slice none 0 0, .slice A ys.length c1] 27)).alloc (.cells #[.bool false, .slice B zs.length c2] 32)).drew) := HW
  go_enter Try.func13, Try.ntmps13
  go_wp2
  have x0 := row_cell hw0 0 _ rfl
  have x1 := row_cell hw0 1 _ rfl
  have x2 := row_cell hw0 2 _ rfl
  have y0 := row_cell hw1 0 _ rfl
  have y1 := row_cell hw1 1 _ rfl
  clear hw0 hw1 HQ
  generalize (w.alloc (.cells #[.bool false, .slice none 0 0, .slice A ys.length c1] 27)).alloc (.cells #[.bool false, .slice B zs.length c2] 32) = W at *
  generalize w.heap.size = b at *
  have HQ := Lib.hid (And.intro x0 (And.intro x1 (And.intro x2 (And.intro y0 y1))))
  go_region_held3 (fun w' => w'.cell? ⟨b, 0, none⟩ = some (.bool false) ∧ w'.cell? ⟨b, 1, none⟩ = some (.slice none 0 0) ∧ w'.cell? ⟨b, 2, none⟩ = some (.slice A ys.length c1) ∧ w'.cell? ⟨b + 1, 0, none⟩ = some (.bool false) ∧ w'.cell? ⟨b + 1, 1, none⟩ = some (.slice B zs.length c2)) (first | exact HQ.out | assumption)
    (first
      | (go_at_call 11; refine (cT _ HW.out).out.mono ?_; clear cT; rintro r v1 ⟨q, rfl, hq, hg⟩; have HQ1 := Lib.hid hq; have HG := Lib.hid (HW.out.trans hg); have HD := Lib.hid ((Gr.refl W).drew.trans hg); have HQ := Lib.hid (And.intro (HD.out.cells x0) (And.intro (HD.out.cells x1) (And.intro (HD.out.cells x2) (And.intro (HD.out.cells y0) (HD.out.cells y1))))); clear hg hq)
      | (go_at_call 45; refine (rf_sameN false _ _ zs _ HQ1.out (HU.out.gr HG.out)).mono ?_; rintro r v2 ⟨rfl, hg⟩; have HG2 := Lib.hid (HG.out.trans hg); have HQ := Lib.hid (And.intro (hg.cells HQ.out.1) (And.intro (hg.cells HQ.out.2.1) (And.intro (hg.cells HQ.out.2.2.1) (And.intro (hg.cells HQ.out.2.2.2.1) (hg.cells HQ.out.2.2.2.2))))); clear hg))
  go_wp2
  go_ret
  exact ⟨rfl, HG2.out⟩
theorem nd_sameL (v u : Value) (xs : List Ce) (w : World) (hv : LfAt w v xs) (hu : LfAt w u xs) :
    Calls Try.prog 16 #[v, u] w fun r w' => r = .returned (.bool true) ∧ Gr w w' := by
  obtain ⟨A, c1, rfl, hs1, h1, h2⟩ := hv
  obtain ⟨B, c2, rfl, hs2, k1, k2⟩ := hu
  have cS := fun w1 (h : Gr w w1) => Lib.hid (lf_equal A B c1 c2 xs h1 k1 h2 k2 w1 (hs1.gr h) (hs2.gr h))
  clear hs1 hs2
  unfold maxLen at *
  have HW : Hid (Gr w ((w.alloc (.cells #[.bool true, .slice A xs.length c1, .slice none 0 0] 27)).alloc (.cells #[.bool true, .slice B xs.length c2, .slice none 0 0] 27))) := ((Gr.refl w).alloc _).alloc _
  go_enter Try.func16, Try.ntmps16
  go_wp2_with (go_at_call 48; refine (cS _ HW.out).out.mono ?_; clear cS; rintro r v1 ⟨rfl, hg⟩; have HG := Lib.hid (HW.out.trans hg); clear hg)
  go_ret
  exact ⟨rfl, HG.out⟩
theorem nd_sameK (v u : Value) (ys : List Ki) (w : World) (hv : KiAt w v ys) (hu : KiAt w u ys) :
    Calls Try.prog 16 #[v, u] w fun r w' => r = .returned (.bool true) ∧ Gr w w' := by
  obtain ⟨A, c1, rfl, hs1, h1, h2⟩ := hv
  obtain ⟨B, c2, rfl, hs2, k1, k2⟩ := hu
  have cS := fun w1 (h : Gr w w1) => Lib.hid (ki_equal A B c1 c2 ys h1 k1 h2 k2 w1 (hs1.gr h) (hs2.gr h))
  clear hs1 hs2
  unfold maxLen at *
  have HW : Hid (Gr w ((w.alloc (.cells #[.bool false, .slice none 0 0, .slice A ys.length c1] 27)).alloc (.cells #[.bool false, .slice none 0 0, .slice B ys.length c2] 27))) := ((Gr.refl w).alloc _).alloc _
  go_enter Try.func16, Try.ntmps16
  go_wp2_with (go_at_call 49; refine (cS _ HW.out).out.mono ?_; clear cS; rintro r v1 ⟨rfl, hg⟩; have HG := Lib.hid (HW.out.trans hg); clear hg)
  go_ret
  exact ⟨rfl, HG.out⟩
end Go.Proofs.Ytmpmfgkabjedpaa
