/- Layer 10: slices.Concat of two rows of slots.Kid (printed by ndcat_gen.py). -/
import Derived.Test.YtmpmfgkabjedpaaMgDo11
import Derived.Test.YtmpmfgkabjedpaaMgDo12
import Derived.Test.YtmpmfgkabjedpaaMgDo13
namespace Go.Proofs.Ytmpmfgkabjedpaa
open Go.RowKit
set_option linter.unusedVariables false
set_option linter.unusedSimpArgs false
set_option maxRecDepth 100000
set_option maxHeartbeats 4000000
theorem ki_concat (b : Nat) (A1 A2 : Option Addr) (c1 c2 : Nat) (xs ys : List Ki) (h1 : xs.length ≤ c1) (h2 : ys.length ≤ c2) (hm1 : c1 ≤ maxLen) (hm2 : c2 ≤ maxLen) (l1 : xs.length ≤ 1000) (l2 : ys.length ≤ 1000) (w : World)
    (p1 : w.cell? ⟨b, 0, none⟩ = some (.slice A1 xs.length c1)) (p2 : w.cell? ⟨b, 1, none⟩ = some (.slice A2 ys.length c2)) (hs1 : SliceAt w A1 2 kiCell xs) (hs2 : SliceAt w A2 2 kiCell ys) :
    Calls Try.prog 47 #[.slice (some ⟨b, 0, none⟩) 2 2] w fun r w' => ∃ A' cap', r = .returned (.slice A' (xs ++ ys).length cap') ∧ Own w' w.heap.size 61 2 kiCell A' cap' (xs ++ ys) ∧ Gr w w' := by
  unfold maxLen at hm1 hm2
  obtain ⟨ii, hii, hz0, hz1, hz2⟩ := info_parts sl_info_ki
  have HX := Lib.hid (And.intro hs1 hs2)
  have cG := fun w1 => Lib.hid (ki_grow (xs.length + ys.length) (by omega) w1)
  clear hs1 hs2
  go_enter Try.func47, Try.ntmps47
  go_wp2
  go_loopw [3, 11] (fun sz i wr => ((i = .int .i64 0 ∧ sz = .int .i64 0) ∨ (i = .int .i64 1 ∧ sz = .int .i64 ((xs.length : Nat) : Int)) ∨ (i = .int .i64 2 ∧ sz = .int .i64 ((xs.length + ys.length : Nat) : Int))) ∧ Hid (Gr w wr)) (fun _ i _ => 2 - (intOf i).toNat)
  case atStart => exact ⟨.inl ⟨rfl, rfl⟩, Gr.refl _⟩
  case round =>
    obtain ⟨hc, HR⟩ := hrel
    have q1 := HR.out.cells p1
    have q2 := HR.out.cells p2
    rcases hc with ⟨rfl, rfl⟩ | ⟨rfl, rfl⟩ | ⟨rfl, rfl⟩
    · have hw : IntKind.i64.wrap ((xs.length : Nat) : Int) = ((xs.length : Nat) : Int) := by rw [IntKind.wrap_i64]; omega
      have hn : ¬ ((xs.length : Nat) : Int) < 0 := by omega
      go_wp2
      go_roundw
      case rel => exact ⟨.inr (.inl ⟨by go_num, by go_num⟩), HR⟩
      case measure => decide
    · have hw : IntKind.i64.wrap (((xs.length : Nat) : Int) + ((ys.length : Nat) : Int)) = ((xs.length : Nat) : Int) + ((ys.length : Nat) : Int) := by rw [IntKind.wrap_i64]; omega
      have hn : ¬ ((xs.length : Nat) : Int) + ((ys.length : Nat) : Int) < 0 := by omega
      go_wp2
      go_roundw
      case rel => exact ⟨.inr (.inr ⟨by go_num, by go_num⟩), HR⟩
      case measure => decide
    · go_wp2_with (go_at_call 83; refine (cG _).out.mono ?_; clear cG; rintro r v1 ⟨A0, c0, rfl, hown, hg⟩; have HO : Hid (Own v1 w.heap.size 61 2 kiCell A0 c0 ([] : List Ki) ∧ Gr w v1) := ⟨hown.mono HR.out.size, HR.out.trans hg⟩; clear hown hg)
      have hv1 := Lib.hid (And.intro (HO.out.2.cells p1) (HO.out.2.cells p2))
      clear HR q1 q2
      generalize wr = wold
      go_loopw [6, 27] (fun v i wr => ∃ A' cap', ((i = .int .i64 0 ∧ v = .slice A' 0 cap' ∧ Hid (Own wr w.heap.size 61 2 kiCell A' cap' ([] : List Ki) ∧ Gr w wr)) ∨ (i = .int .i64 1 ∧ v = .slice A' xs.length cap' ∧ Hid (Own wr w.heap.size 61 2 kiCell A' cap' xs ∧ Gr w wr)) ∨ (i = .int .i64 2 ∧ v = .slice A' (xs ++ ys).length cap' ∧ Hid (Own wr w.heap.size 61 2 kiCell A' cap' (xs ++ ys) ∧ Gr w wr)))) (fun _ i _ => 2 - (intOf i).toNat)
      case atStart => exact ⟨_, _, .inl ⟨rfl, rfl, HO.out⟩⟩
      case round =>
        obtain ⟨A', cap', ⟨rfl, rfl, HR⟩ | ⟨rfl, rfl, HR⟩ | ⟨rfl, rfl, HR⟩⟩ := hrel
        · have q1 := HR.out.2.cells p1
          have q2 := HR.out.2.cells p2
          have hle := HR.out.1.cap_le
          by_cases h0 : xs = []
          · have hz : xs.length = 0 := by rw [h0]; rfl
            have HT : Hid (Own wr w.heap.size 61 2 kiCell A' cap' ([] ++ xs) ∧ Gr w wr) := by
              unfold Hid; rw [h0, List.append_nil]; exact HR.out
            have hle1 : 0 ≤ cap' := hle.1
            rw [hz] at q1
            clear hle hz
            have HH0 := Lib.hid h0
            clear h0
            go_wp2_with (at_builtin; refine wpList_append_none _ rfl _ _ 25 rfl 61 ii Try.underlying25 hii A' 0 cap' hle1 A1 c1 rfl rfl ?_)
            go_roundw
            case rel => exact ⟨A', cap', .inr <| .inl ⟨by go_num, by rw [HH0.out]; rfl, HT⟩⟩
            case measure => decide
          · have hpos : 0 < xs.length := List.length_pos_iff.2 h0
            rcases HX.out.1 with h1 | ⟨a, off, rfl, hcell⟩
            · exact absurd h1 h0
            · have HN := Lib.hid (slice_news kiCell_len hcell)
              clear hcell h0 hle
              go_wp2_with (at_builtin; refine wpList_append_lies _ rfl _ _ 25 rfl w.heap.size 61 ii _ 2 24 Try.underlying25 hii hz0 hz1 hz2 rfl (by omega) (.slice A' 0 cap') 0 (([] : List Ki).flatMap kiCell) rfl HR.out.1 ⟨a, off, none⟩ xs.length c1 (xs.flatMap kiCell) rfl (cells_len 2 kiCell_len xs) (fun j u hu => HR.out.2.cells (HN.out j u hu)) (cells_one kiCell_one xs) hpos (by unfold maxLen; omega) (by omega) HR.out.2.size _ rfl ?_; intro gg cc v5 hown hgrow hat hlt5)
              have HT : Hid (Own v5 w.heap.size 61 2 kiCell (some ⟨gg, 0, none⟩) cc ([] ++ xs) ∧ Gr w v5) := ⟨Own.app hown, HR.out.1.grown hgrow HR.out.2 (Nat.le_refl _)⟩
              clear hown hgrow hat HR
              go_roundw
              case rel => exact ⟨_, _, .inr <| .inl ⟨by go_num, by go_num, HT⟩⟩
              case measure => decide
        · have q1 := HR.out.2.cells p1
          have q2 := HR.out.2.cells p2
          have hle := HR.out.1.cap_le
          by_cases h0 : ys = []
          · have hz : ys.length = 0 := by rw [h0]; rfl
            have HT : Hid (Own wr w.heap.size 61 2 kiCell A' cap' (xs ++ ys) ∧ Gr w wr) := by
              unfold Hid; rw [h0, List.append_nil]; exact HR.out
            have hle1 : xs.length ≤ cap' := hle.1
            rw [hz] at q2
            clear hle hz
            have HH0 := Lib.hid h0
            clear h0
            go_wp2_with (at_builtin; refine wpList_append_none _ rfl _ _ 25 rfl 61 ii Try.underlying25 hii A' xs.length cap' hle1 A2 c2 rfl rfl ?_)
            go_roundw
            case rel => exact ⟨A', cap', .inr <| .inr ⟨by go_num, by rw [HH0.out, List.append_nil], HT⟩⟩
            case measure => decide
          · have hpos : 0 < ys.length := List.length_pos_iff.2 h0
            rcases HX.out.2 with h1 | ⟨a, off, rfl, hcell⟩
            · exact absurd h1 h0
            · have HN := Lib.hid (slice_news kiCell_len hcell)
              clear hcell h0 hle
              go_wp2_with (at_builtin; refine wpList_append_lies _ rfl _ _ 25 rfl w.heap.size 61 ii _ 2 24 Try.underlying25 hii hz0 hz1 hz2 rfl (by omega) (.slice A' xs.length cap') xs.length ((xs : List Ki).flatMap kiCell) rfl HR.out.1 ⟨a, off, none⟩ ys.length c2 (ys.flatMap kiCell) rfl (cells_len 2 kiCell_len ys) (fun j u hu => HR.out.2.cells (HN.out j u hu)) (cells_one kiCell_one ys) hpos (by unfold maxLen; omega) (by omega) HR.out.2.size _ rfl ?_; intro gg cc v5 hown hgrow hat hlt5)
              have HT : Hid (Own v5 w.heap.size 61 2 kiCell (some ⟨gg, 0, none⟩) cc (xs ++ ys) ∧ Gr w v5) := ⟨Own.app hown, HR.out.1.grown hgrow HR.out.2 (Nat.le_refl _)⟩
              clear hown hgrow hat HR
              go_roundw
              case rel => exact ⟨_, _, .inr <| .inr ⟨by go_num, by rw [List.length_append], HT⟩⟩
              case measure => decide
        · go_wp2
          go_ret
          exact ⟨_, _, rfl, HR.out.1, HR.out.2⟩
end Go.Proofs.Ytmpmfgkabjedpaa
namespace Go.Proofs.Ytmpmfgkabjedpaa
open Go.RowKit
set_option linter.unusedVariables false
set_option linter.unusedSimpArgs false
set_option maxRecDepth 100000
set_option maxHeartbeats 2000000
def LfAt (w : World) (v : Value) (xs : List Ce) : Prop := ∃ A cap, v = .agg #[.bool true, .slice A xs.length cap, .slice none 0 0] ∧ SliceAt w A 4 ceCell xs ∧ xs.length ≤ cap ∧ cap ≤ maxLen
def KiAt (w : World) (v : Value) (ys : List Ki) : Prop := ∃ A cap, v = .agg #[.bool false, .slice none 0 0, .slice A ys.length cap] ∧ SliceAt w A 2 kiCell ys ∧ ys.length ≤ cap ∧ cap ≤ maxLen
def RfAt (w : World) (leaf : Bool) (v : Value) (zs : List Ce) : Prop := ∃ A cap, v = .agg #[.bool leaf, .slice A zs.length cap] ∧ SliceAt w A 4 ceCell zs ∧ zs.length ≤ cap ∧ cap ≤ maxLen
section
variable {w w' : World} {v : Value} {leaf : Bool} {xs : List Ce} {ys : List Ki}
theorem LfAt.gr (h : LfAt w v xs) (hg : Gr w w') : LfAt w' v xs := by
  obtain ⟨A, cap, rfl, hs, h1, h2⟩ := h; exact ⟨A, cap, rfl, hs.gr hg, h1, h2⟩
theorem KiAt.gr (h : KiAt w v ys) (hg : Gr w w') : KiAt w' v ys := by
  obtain ⟨A, cap, rfl, hs, h1, h2⟩ := h; exact ⟨A, cap, rfl, hs.gr hg, h1, h2⟩
theorem RfAt.gr (h : RfAt w leaf v xs) (hg : Gr w w') : RfAt w' leaf v xs := by
  obtain ⟨A, cap, rfl, hs, h1, h2⟩ := h; exact ⟨A, cap, rfl, hs.gr hg, h1, h2⟩
end
theorem nd_fromL (A : Option Addr) (cap : Nat) (xs : List Ce) (hcap : xs.length ≤ cap) (hcm : cap ≤ maxLen) (w : World) (hs : SliceAt w A 4 ceCell xs) :
    Calls Try.prog 9 #[.bool true, .slice A xs.length cap] w fun r w' => ∃ v, r = .returned v ∧ LfAt w' v xs ∧ Gr w w' := by
  refine (nd_from_leaf A xs.length cap w).mono ?_
  rintro r w' ⟨rfl, hg⟩
  exact ⟨_, rfl, ⟨A, cap, rfl, hs.gr hg, hcap, hcm⟩, hg⟩
theorem nd_fromK (A : Option Addr) (cap : Nat) (xs : List Ce) (hcap : xs.length ≤ cap) (hcm : cap ≤ maxLen) (hl : xs.length ≤ 4000) (w : World) (hs : SliceAt w A 4 ceCell xs) :
    Calls Try.prog 9 #[.bool false, .slice A xs.length cap] w fun r w' => ∃ v, r = .returned v ∧ KiAt w' v (xs.map kiOf) ∧ Gr w w' := by
  refine (nd_from_kids A cap xs hcap hcm hl w hs).mono ?_
  rintro r w' ⟨A', cap', rfl, h1, h2, h3, hg⟩
  exact ⟨_, rfl, ⟨A', cap', rfl, h1, h2, h3⟩, hg⟩
theorem nd_toL (v : Value) (xs : List Ce) (w : World) (h : LfAt w v xs) :
    Calls Try.prog 11 #[v] w fun r w' => ∃ u, r = .returned u ∧ RfAt w' true u xs ∧ Gr w w' := by
  obtain ⟨A, cap, rfl, hs, h1, h2⟩ := h
  refine (nd_to_leaf A none xs.length cap 0 0 w).mono ?_
  rintro r w' ⟨rfl, hg⟩
  exact ⟨_, rfl, ⟨A, cap, rfl, hs.gr hg, h1, h2⟩, hg⟩
theorem nd_toK (v : Value) (ys : List Ki) (hl : ys.length ≤ 4000) (w : World) (h : KiAt w v ys) :
    Calls Try.prog 11 #[v] w fun r w' => ∃ u, r = .returned u ∧ RfAt w' false u (ys.map ceOf) ∧ Gr w w' := by
  obtain ⟨A, cap, rfl, hs, h1, h2⟩ := h
  refine (nd_to_kids A none cap 0 0 ys h1 h2 hl w hs).mono ?_
  rintro r w' ⟨A', cap', rfl, k1, k2, k3, hg⟩
  exact ⟨_, rfl, ⟨A', cap', rfl, k1, k2, k3⟩, hg⟩
theorem rf_sameN (leaf : Bool) (v u : Value) (zs : List Ce) (w : World) (hv : RfAt w leaf v zs) (hu : RfAt w leaf u zs) :
    Calls Try.prog 45 #[v, u] w fun r w' => r = .returned (.bool true) ∧ Gr w w' := by
  obtain ⟨A, c1, rfl, hs1, h1, h2⟩ := hv
  obtain ⟨B, c2, rfl, hs2, k1, k2⟩ := hu
  have cS := fun w1 (h : Gr w w1) => Lib.hid (rf_same A B c1 c2 zs h1 k1 h2 k2 w1 (hs1.gr h) (hs2.gr h))
  clear hs1 hs2
  unfold maxLen at *
  have HW : Hid (Gr w ((w.alloc (.cells #[.bool leaf, .slice A zs.length c1] 32)).alloc (.cells #[.bool leaf, .slice B zs.length c2] 32))) := ((Gr.refl w).alloc _).alloc _
  go_enter Try.func45, Try.ntmps45
  go_wp2_with (go_at_call 81; refine (cS _ HW.out).out.mono ?_; clear cS; rintro r v1 ⟨rfl, hg⟩; have HG := Lib.hid (HW.out.trans hg); clear hg)
  go_ret
  exact ⟨rfl, HG.out⟩
theorem nd_samL (v u : Value) (xs : List Ce) (w : World) (hv : LfAt w v xs) (hu : RfAt w true u xs) :
    Calls Try.prog 13 #[v, u] w fun r w' => r = .returned (.bool true) ∧ Gr w w' := by
  have cT := fun w1 (h : Gr w w1) => Lib.hid (nd_toL v xs w1 (hv.gr h))
  have HU := Lib.hid hu
  obtain ⟨A, c1, rfl, hs1, h1, h2⟩ := hv
  obtain ⟨B, c2, rfl, hs2, k1, k2⟩ := hu
  clear hs1 hs2 h1 h2 k1 k2
  have hw1 := heap_alloc_last (w.alloc (.cells #[.bool true, .slice A xs.length c1, .slice none 0 0] 27)) (.cells #[.bool true, .slice B xs.length c2] 32)
  rw [alloc_size] at hw1
  have hw0 := (((Gr.refl (w.alloc (.cells #[.bool true, .slice A xs.length c1, .slice none 0 0] 27))).alloc (.cells #[.bool true, .slice B xs.length c2] 32)).block (k := w.heap.size) (by rw [alloc_size]; omega)).trans (heap_alloc_last w (.cells #[.bool true, .slice A xs.length c1, .slice none 0 0] 27))
  have HW : Hid (Gr w ((w.alloc (.cells #[.bool true, .slice A xs.length c1, .slice none 0 0] 27)).alloc (.cells #[.bool true, .slice B xs.length c2] 32)).drew) := (((Gr.refl w).alloc _).alloc _).drew
  have HQ : Hid (Gr w ((w.alloc (.cells #[.bool true, .slice A xs.length c1, .slice none 0 0] 27)).alloc (.cells #[.bool true, .slice B xs.length c2] 32)).drew) := HW
  go_enter Try.func13, Try.ntmps13
  go_wp2
  have x0 := row_cell hw0 0 _ rfl
  have x1 := row_cell hw0 1 _ rfl
  have x2 := row_cell hw0 2 _ rfl
  have y0 := row_cell hw1 0 _ rfl
  have y1 := row_cell hw1 1 _ rfl
  clear hw0 hw1 HQ
  generalize (w.alloc (.cells #[.bool true, .slice A xs.length c1, .slice none 0 0] 27)).alloc (.cells #[.bool true, .slice B xs.length c2] 32) = W at *
  generalize w.heap.size = b at *
  have HQ := Lib.hid (And.intro x0 (And.intro x1 (And.intro x2 (And.intro y0 y1))))
  go_region_held3 (fun w' => w'.cell? ⟨b, 0, none⟩ = some (.bool true) ∧ w'.cell? ⟨b, 1, none⟩ = some (.slice A xs.length c1) ∧ w'.cell? ⟨b, 2, none⟩ = some (.slice none 0 0) ∧ w'.cell? ⟨b + 1, 0, none⟩ = some (.bool true) ∧ w'.cell? ⟨b + 1, 1, none⟩ = some (.slice B xs.length c2)) (first | exact HQ.out | assumption)
    (first
      | (go_at_call 11; refine (cT _ HW.out).out.mono ?_; clear cT; rintro r v1 ⟨q, rfl, hq, hg⟩; have HQ1 := Lib.hid hq; have HG := Lib.hid (HW.out.trans hg); have HD := Lib.hid ((Gr.refl W).drew.trans hg); have HQ := Lib.hid (And.intro (HD.out.cells x0) (And.intro (HD.out.cells x1) (And.intro (HD.out.cells x2) (And.intro (HD.out.cells y0) (HD.out.cells y1))))); clear hg hq)
      | (go_at_call 45; refine (rf_sameN true _ _ xs _ HQ1.out (HU.out.gr HG.out)).mono ?_; rintro r v2 ⟨rfl, hg⟩; have HG2 := Lib.hid (HG.out.trans hg); have HQ := Lib.hid (And.intro (hg.cells HQ.out.1) (And.intro (hg.cells HQ.out.2.1) (And.intro (hg.cells HQ.out.2.2.1) (And.intro (hg.cells HQ.out.2.2.2.1) (hg.cells HQ.out.2.2.2.2))))); clear hg))
  go_wp2
  go_ret
  exact ⟨rfl, HG2.out⟩
theorem nd_samK (v u : Value) (ys : List Ki) (hl : ys.length ≤ 4000) (w : World) (hv : KiAt w v ys) (hu : RfAt w false u (ys.map ceOf)) :
    Calls Try.prog 13 #[v, u] w fun r w' => r = .returned (.bool true) ∧ Gr w w' := by
  have cT := fun w1 (h : Gr w w1) => Lib.hid (nd_toK v ys hl w1 (hv.gr h))
  have HU := Lib.hid hu
  generalize ys.map ceOf = zs at *
  obtain ⟨A, c1, rfl, hs1, h1, h2⟩ := hv
  obtain ⟨B, c2, rfl, hs2, k1, k2⟩ := hu
  clear hs1 hs2 h1 h2 k1 k2
  have hw1 := heap_alloc_last (w.alloc (.cells #[.bool false, .slice none 0 0, .slice A ys.length c1] 27)) (.cells #[.bool false, .slice B zs.length c2] 32)
  rw [alloc_size] at hw1
  have hw0 := (((Gr.refl (w.alloc (.cells #[.bool false, .slice none 0 0, .slice A ys.length c1] 27))).alloc (.cells #[.bool false, .slice B zs.length c2] 32)).block (k := w.heap.size) (by rw [alloc_size]; omega)).trans (heap_alloc_last w (.cells #[.bool false, .slice none 0 0, .slice A ys.length c1] 27))
  have HW : Hid (Gr w ((w.alloc (.cells #[.bool false, .slice none 0 0, .slice A ys.length c1] 27)).alloc (.cells #[.bool false, .slice B zs.length c2] 32)).drew) := (((Gr.refl w).alloc _).alloc _).drew
  have HQ : Hid (Gr w ((w.alloc (.cells #[.bool false, .slice none 0 0, .slice A ys.length c1] 27)).alloc (.cells #[.bool false, .slice B zs.length c2] 32)).drew) := HW
  go_enter Try.func13, Try.ntmps13
  go_wp2
  have x0 := row_cell hw0 0 _ rfl
  have x1 := row_cell hw0 1 _ rfl
  have x2 := row_cell hw0 2 _ rfl
  have y0 := row_cell hw1 0 _ rfl
  have y1 := row_cell hw1 1 _ rfl
  clear hw0 hw1 HQ
  generalize (w.alloc (.cells #[.bool false, .slice none 0 0, .slice A ys.length c1] 27)).alloc (.cells #[.bool false, .slice B zs.length c2] 32) = W at *
  generalize w.heap.size = b at *
  have HQ := Lib.hid (And.intro x0 (And.intro x1 (And.intro x2 (And.intro y0 y1))))
  go_region_held3 (fun w' => w'.cell? ⟨b, 0, none⟩ = some (.bool false) ∧ w'.cell? ⟨b, 1, none⟩ = some (.slice none 0 0) ∧ w'.cell? ⟨b, 2, none⟩ = some (.slice A ys.length c1) ∧ w'.cell? ⟨b + 1, 0, none⟩ = some (.bool false) ∧ w'.cell? ⟨b + 1, 1, none⟩ = some (.slice B zs.length c2)) (first | exact HQ.out | assumption)
    (first
      | (go_at_call 11; refine (cT _ HW.out).out.mono ?_; clear cT; rintro r v1 ⟨q, rfl, hq, hg⟩; have HQ1 := Lib.hid hq; have HG := Lib.hid (HW.out.trans hg); have HD := Lib.hid ((Gr.refl W).drew.trans hg); have HQ := Lib.hid (And.intro (HD.out.cells x0) (And.intro (HD.out.cells x1) (And.intro (HD.out.cells x2) (And.intro (HD.out.cells y0) (HD.out.cells y1))))); clear hg hq)
      | (go_at_call 45; refine (rf_sameN false _ _ zs _ HQ1.out (HU.out.gr HG.out)).mono ?_; rintro r v2 ⟨rfl, hg⟩; have HG2 := Lib.hid (HG.out.trans hg); have HQ := Lib.hid (And.intro (hg.cells HQ.out.1) (And.intro (hg.cells HQ.out.2.1) (And.intro (hg.cells HQ.out.2.2.1) (And.intro (hg.cells HQ.out.2.2.2.1) (hg.cells HQ.out.2.2.2.2))))); clear hg))
  go_wp2
  go_ret
  exact ⟨rfl, HG2.out⟩
theorem nd_sameL (v u : Value) (xs : List Ce) (w : World) (hv : LfAt w v xs) (hu : LfAt w u xs) :
    Calls Try.prog 16 #[v, u] w fun r w' => r = .returned (.bool true) ∧ Gr w w' := by
  obtain ⟨A, c1, rfl, hs1, h1, h2⟩ := hv
  obtain ⟨B, c2, rfl, hs2, k1, k2⟩ := hu
  have cS := fun w1 (h : Gr w w1) => Lib.hid (lf_equal A B c1 c2 xs h1 k1 h2 k2 w1 (hs1.gr h) (hs2.gr h))
  clear hs1 hs2
  unfold maxLen at *
  have HW : Hid (Gr w ((w.alloc (.cells #[.bool true, .slice A xs.length c1, .slice none 0 0] 27)).alloc (.cells #[.bool true, .slice B xs.length c2, .slice none 0 0] 27))) := ((Gr.refl w).alloc _).alloc _
  go_enter Try.func16, Try.ntmps16
  go_wp2_with (go_at_call 48; refine (cS _ HW.out).out.mono ?_; clear cS; rintro r v1 ⟨rfl, hg⟩; have HG := Lib.hid (HW.out.trans hg); clear hg)
  go_ret
  exact ⟨rfl, HG.out⟩
theorem nd_sameK (v u : Value) (ys : List Ki) (w : World) (hv : KiAt w v ys) (hu : KiAt w u ys) :
    Calls Try.prog 16 #[v, u] w fun r w' => r = .returned (.bool true) ∧ Gr w w' := by
  obtain ⟨A, c1, rfl, hs1, h1, h2⟩ := hv
  obtain ⟨B, c2, rfl, hs2, k1, k2⟩ := hu
  have cS := fun w1 (h : Gr w w1) => Lib.hid (ki_equal A B c1 c2 ys h1 k1 h2 k2 w1 (hs1.gr h) (hs2.gr h))
  clear hs1 hs2
  unfold maxLen at *
  have HW : Hid (Gr w ((w.alloc (.cells #[.bool false, .slice none 0 0, .slice A ys.length c1] 27)).alloc (.cells #[.bool false, .slice none 0 0, .slice B ys.length c2] 27))) := ((Gr.refl w).alloc _).alloc _
  go_enter Try.func16, Try.ntmps16
  go_wp2_with (go_at_call 49; refine (cS _ HW.out).out.mono ?_; clear cS; rintro r v1 ⟨rfl, hg⟩; have HG := Lib.hid (HW.out.trans hg); clear hg)
  go_ret
  exact ⟨rfl, HG.out⟩
end Go.Proofs.Ytmpmfgkabjedpaa
namespace Go.Proofs.Ytmpmfgkabjedpaa
open Go.RowKit
set_option linter.unusedVariables false
set_option linter.unusedSimpArgs false
set_option maxRecDepth 100000
set_option maxHeartbeats 2000000
def spA {α : Type} (sm : List α → Nat) (xs : List α) : List α := if xs.length < 2 then xs else xs.take (hfAt sm xs)
def spB {α : Type} (sm : List α → Nat) (xs : List α) : List α := if xs.length < 2 then [] else xs.drop (hfAt sm xs)
def hdK {α : Type} (key : α → ByteArray) (xs : List α) : ByteArray := match xs with | [] => .empty | x :: _ => key x
def setK1 (k : ByteArray) : List Ki → List Ki | [] => [] | y :: ys => (k, y.2) :: ys
def setC1 (k : ByteArray) : List Ce → List Ce | [] => [] | y :: ys => (k, y.2) :: ys
theorem setC1_map (k : ByteArray) (ys : List Ki) : setC1 k (ys.map ceOf) = (setK1 k ys).map ceOf := by cases ys <;> rfl
theorem hdK_map (ys : List Ki) : hdK (fun x : Ce => x.1) (ys.map ceOf) = hdK (fun x : Ki => x.1) ys := by cases ys <;> rfl
theorem setK1_back (ys : List Ki) : setK1 (hdK (fun x : Ki => x.1) ys) (setK1 .empty ys) = ys := by cases ys <;> rfl
theorem setK1_len (k : ByteArray) (ys : List Ki) : (setK1 k ys).length = ys.length := by cases ys <;> rfl
theorem setC1_len (k : ByteArray) (ys : List Ce) : (setC1 k ys).length = ys.length := by cases ys <;> rfl
theorem sp_app {α : Type} (sm : List α → Nat) (xs : List α) : spA sm xs ++ spB sm xs = xs := by
  unfold spA spB; split
  · simp
  · exact List.take_append_drop _ _
theorem hfGo_ext (f g : Nat → Nat) (all : Nat) (s : Nat × Int) (h : ∀ i, f i = g i) (k : Nat) : hfGo f all s k = hfGo g all s k := by
  have : f = g := funext h
  rw [this]
theorem hfAt_map (ys : List Ki) : hfAt (rcSum false) (ys.map ceOf) = hfAt kiSum ys := by
  unfold hfAt
  rw [rcSum_kids, List.length_map]
  rw [hfGo_ext _ (fun i => kiSum (ys.take i)) _ _ (fun i => by show rcSum false ((ys.map ceOf).take i) = _; rw [← List.map_take, rcSum_kids])]
theorem spA_map (ys : List Ki) : spA (rcSum false) (ys.map ceOf) = (spA kiSum ys).map ceOf := by
  unfold spA; rw [hfAt_map, List.length_map]; split
  · rfl
  · rw [List.map_take]
theorem spB_map (ys : List Ki) : spB (rcSum false) (ys.map ceOf) = (spB kiSum ys).map ceOf := by
  unfold spB; rw [hfAt_map, List.length_map]; split
  · rfl
  · rw [List.map_drop]
theorem rcSum_leafF : rcSum true = lfSum := funext rcSum_leaf
theorem rc_split (leaf : Bool) (xs : List Ce) (i : Nat) : rcSum leaf (xs.take i) + rcSum leaf (xs.drop i) = rcSum leaf xs := by
  unfold rcSum
  rw [← List.sum_append, ← List.map_append, List.take_append_drop]
theorem SliceAt.take {α : Type} {w : World} {A : Option Addr} {k : Nat} {enc : α → List Value} {xs : List α} (h : SliceAt w A k enc xs) (i : Nat) : SliceAt w A k enc (xs.take i) := by
  rcases h with h | ⟨b, off, hA, hc⟩
  · subst h; exact .inl (by simp)
  · refine .inr ⟨b, off, hA, fun j x hx => hc j x ?_⟩
    rw [List.getElem?_take] at hx
    split at hx
    · exact hx
    · cases hx
theorem SliceAt.dropAt {α : Type} {w : World} {a off k : Nat} {enc : α → List Value} {xs : List α} (hc : ∀ i x, xs[i]? = some x → ∀ j u, (enc x)[j]? = some u → w.cell? ⟨a, off + i * k + j, none⟩ = some u) (i : Nat) : SliceAt w (some ⟨a, off + i * k, none⟩) k enc (xs.drop i) := by
  refine .inr ⟨a, off + i * k, rfl, fun j x hx t u hu => ?_⟩
  rw [List.getElem?_drop] at hx
  have := hc (i + j) x hx t u hu
  rw [Nat.add_mul] at this
  rw [show off + i * k + j * k + t = off + (i * k + j * k) + t by omega]
  exact this
theorem results_ctc {fn : Func} {p u q : Tmp} {ty ty2 : TypeId} (h : fn.results = #[.cell p ty, .tmp u, .cell q ty2]) (tmps : Array Value) (P : Program) (w : World) :
    (results fn tmps).run P w =
      ((asAddr (tmps.getD p undef)).run P w).andThen fun a w₁ => ((loadVar ty a).run P w₁).andThen fun v w₂ => ((asAddr (tmps.getD q undef)).run P w₂).andThen fun a' w₃ => ((loadVar ty2 a').run P w₃).andThen fun v' w₄ => .ok (.tuple #[v, tmps.getD u undef, v']) w₄ := by
  simp only [results, h]
  simp [Sem.run_bind, Result.andThen]
theorem results_c_t_c {P : Program} {fn : Func} {p u q : Tmp} {ty ty2 : TypeId} (h : fn.results = #[.cell p ty, .tmp u, .cell q ty2]) (tmps : Array Value) (w : World) (g g2 : Nat) (t t2 : TypeId) (cs cs2 : Array Value) (fr fr2 : Nat × Nat) (d d2 : TypeDesc)
    (hp : tmps.getD p undef = .pointer (some ⟨g, 0, none⟩)) (hg : w.heap[g]? = some (.cells cs t fr))
    (hu : P.underlying ty = some d) (hd : (match d with | .struct _ | .array _ _ => true | _ => false) = true) (hi : (P.info? ty).map (·.size) = some cs.size)
    (hp2 : tmps.getD q undef = .pointer (some ⟨g2, 0, none⟩)) (hg2 : w.heap[g2]? = some (.cells cs2 t2 fr2))
    (hu2 : P.underlying ty2 = some d2) (hd2 : (match d2 with | .struct _ | .array _ _ => true | _ => false) = true) (hi2 : (P.info? ty2).map (·.size) = some cs2.size) :
    (results fn tmps).run P w = .ok (.tuple #[.agg cs, tmps.getD u undef, .agg cs2]) w := by
  rw [results_ctc h, hp, hp2]
  simp [asAddr, Result.andThen, run_loadVar_row w g t ty cs fr d hg hu hd hi, run_loadVar_row w g2 t2 ty2 cs2 fr2 d2 hg2 hu2 hd2 hi2]
/-- Split's blocks: the node g, its two results, its two halves -/
structure SpW (w U : World) (g ba bb : Nat) (N R1 R2 PA PB : Array Value) : Prop where
  gr : Gr w U
  n : U.heap[g]? = some (.cells N 27 (0, 0))
  r1 : U.heap[g + 1]? = some (.cells R1 27 (0, 0))
  r2 : U.heap[g + 1 + 1]? = some (.cells R2 27 (0, 0))
  a : U.heap[ba]? = some (.cells PA 27 (0, 0))
  b : U.heap[bb]? = some (.cells PB 27 (0, 0))
  la : g + 2 < ba
  lb : g + 2 < bb
  ne : ba ≠ bb
  hg : w.heap.size = g
section
variable {w U U' : World} {g ba bb : Nat} {N R1 R2 PA PB : Array Value}
theorem SpW.step (h : SpW w U g ba bb N R1 R2 PA PB) (hg : Gr U U') : SpW w U' g ba bb N R1 R2 PA PB :=
  ⟨h.gr.trans hg, (hg.block (lt_of_row h.n)).trans h.n, (hg.block (lt_of_row h.r1)).trans h.r1, (hg.block (lt_of_row h.r2)).trans h.r2, (hg.block (lt_of_row h.a)).trans h.a, (hg.block (lt_of_row h.b)).trans h.b, h.la, h.lb, h.ne, h.hg⟩
end
def set3 (U : World) (b : Nat) (u0 u1 u2 : Value) : World := ((U.setCell ⟨b, 0, none⟩ u0).setCell ⟨b, 1, none⟩ u1).setCell ⟨b, 2, none⟩ u2
theorem set3_other (U : World) (b k : Nat) (u0 u1 u2 : Value) (h : k ≠ b) : (((U.setCell ⟨b, 0, none⟩ u0).setCell ⟨b, 1, none⟩ u1).setCell ⟨b, 2, none⟩ u2).heap[k]? = U.heap[k]? := by
  rw [heap_setCell_other _ _ _ _ h, heap_setCell_other _ _ _ _ h, heap_setCell_other _ _ _ _ h]
theorem set3_same {U : World} {b : Nat} {a0 a1 a2 : Value} {t : TypeId} (u0 u1 u2 : Value) (h : U.heap[b]? = some (.cells #[a0, a1, a2] t (0, 0))) : (((U.setCell ⟨b, 0, none⟩ u0).setCell ⟨b, 1, none⟩ u1).setCell ⟨b, 2, none⟩ u2).heap[b]? = some (.cells #[u0, u1, u2] t (0, 0)) :=
  heap_setCell_same _ _ 2 _ _ _ (heap_setCell_same _ _ 1 _ _ _ (heap_setCell_same _ _ 0 _ _ _ h))
theorem set3_gr {w U : World} (b : Nat) (u0 u1 u2 : Value) (h : Gr w U) (hb : w.heap.size ≤ b) : Gr w (((U.setCell ⟨b, 0, none⟩ u0).setCell ⟨b, 1, none⟩ u1).setCell ⟨b, 2, none⟩ u2) :=
  ((((Ch.refl b U).setCell 0 _).setCell 1 _).setCell 2 _).gr h hb
section
variable {w U : World} {g ba bb : Nat} {N PA PB : Array Value} {a0 a1 a2 b0 b1 b2 : Value}
theorem SpW.end1 (h : SpW w U g ba bb N #[a0, a1, a2] #[b0, b1, b2] PA PB) (u0 u1 u2 v0 v1 v2 : Value) :
    Gr w ((((((U.setCell ⟨g + 1, 0, none⟩ u0).setCell ⟨g + 1, 1, none⟩ u1).setCell ⟨g + 1, 2, none⟩ u2).setCell ⟨g + 1 + 1, 0, none⟩ v0).setCell ⟨g + 1 + 1, 1, none⟩ v1).setCell ⟨g + 1 + 1, 2, none⟩ v2).drew ∧
    ((((((U.setCell ⟨g + 1, 0, none⟩ u0).setCell ⟨g + 1, 1, none⟩ u1).setCell ⟨g + 1, 2, none⟩ u2).setCell ⟨g + 1 + 1, 0, none⟩ v0).setCell ⟨g + 1 + 1, 1, none⟩ v1).setCell ⟨g + 1 + 1, 2, none⟩ v2).drew.heap[g + 1]? = some (.cells #[u0, u1, u2] 27 (0, 0)) ∧
    ((((((U.setCell ⟨g + 1, 0, none⟩ u0).setCell ⟨g + 1, 1, none⟩ u1).setCell ⟨g + 1, 2, none⟩ u2).setCell ⟨g + 1 + 1, 0, none⟩ v0).setCell ⟨g + 1 + 1, 1, none⟩ v1).setCell ⟨g + 1 + 1, 2, none⟩ v2).drew.heap[g + 1 + 1]? = some (.cells #[v0, v1, v2] 27 (0, 0)) := by
  have hg := h.hg
  have k1 := set3_gr (g + 1) u0 u1 u2 h.gr (by omega)
  have k2 := set3_same u0 u1 u2 h.r1
  have k3 := (set3_other U (g + 1) (g + 1 + 1) u0 u1 u2 (by omega)).trans h.r2
  clear h
  generalize ((U.setCell ⟨g + 1, 0, none⟩ u0).setCell ⟨g + 1, 1, none⟩ u1).setCell ⟨g + 1, 2, none⟩ u2 = X at *
  have k4 := set3_gr (g + 1 + 1) v0 v1 v2 k1 (by omega)
  have k5 := (set3_other X (g + 1 + 1) (g + 1) v0 v1 v2 (by omega)).trans k2
  have k6 := set3_same v0 v1 v2 k3
  generalize ((X.setCell ⟨g + 1 + 1, 0, none⟩ v0).setCell ⟨g + 1 + 1, 1, none⟩ v1).setCell ⟨g + 1 + 1, 2, none⟩ v2 = Y at *
  exact ⟨k4.drew, k5, k6⟩
end
section
variable {w U : World} {g ba bb : Nat} {N R1 R2 PA PB : Array Value}
theorem SpW.put2 (h : SpW w U g ba bb N R1 R2 PA PB) (i : Nat) (u v : Value) : SpW w ((U.setCell ⟨ba, i, none⟩ u).setCell ⟨bb, i, none⟩ v) g ba bb N R1 R2 (PA.setIfInBounds i u) (PB.setIfInBounds i v) := by
  have h1 := h.la
  have h2 := h.lb
  have h3 := h.ne
  have h4 := h.hg
  have ho : ∀ k, k ≠ ba → k ≠ bb → ((U.setCell ⟨ba, i, none⟩ u).setCell ⟨bb, i, none⟩ v).heap[k]? = U.heap[k]? := fun k ka kb => by
    rw [heap_setCell_other _ _ _ _ kb, heap_setCell_other _ _ _ _ ka]
  refine ⟨((Ch.refl bb _).setCell i v).gr (((Ch.refl ba U).setCell i u).gr h.gr (by omega)) (by omega), (ho g (by omega) (by omega)).trans h.n, (ho _ (by omega) (by omega)).trans h.r1, (ho _ (by omega) (by omega)).trans h.r2, ?_, ?_, h1, h2, h3, h4⟩
  · rw [heap_setCell_other _ _ _ _ h3]; exact heap_setCell_same _ _ _ _ _ _ h.a
  · refine heap_setCell_same _ _ _ _ _ _ ?_
    rw [heap_setCell_other _ _ _ _ h3.symm]; exact h.b
theorem own_put2 {α : Type} {base e k : Nat} {enc : α → List Value} {A : Option Addr} {cap : Nat} {xs : List α} (h : Own U base e k enc A cap xs) (ha : ba < base) (hb : bb < base) (i : Nat) (u v : Value) : Own ((U.setCell ⟨ba, i, none⟩ u).setCell ⟨bb, i, none⟩ v) base e k enc A cap xs :=
  (h.ch ((Ch.refl ba U).setCell i u) (fun he => by have := (h.lt he).2; omega)).ch ((Ch.refl bb _).setCell i v) (fun he => by have := (h.lt he).2; omega)
end
/-- the head of a row of the call's own -/
theorem Own.head {α : Type} {w : World} {base e k : Nat} {enc : α → List Value} {A : Option Addr} {cap : Nat} {x : α} {xs : List α} (h : Own w base e k enc A cap (x :: xs)) (hk : ∀ x, (enc x).length = k) :
    ∃ q, A = some ⟨q, 0, none⟩ ∧ base ≤ q ∧ q < w.heap.size ∧ ∀ i u, (enc x)[i]? = some u → w.cell? ⟨q, i, none⟩ = some u := by
  have hs := h.slice hk
  obtain ⟨h1, h2⟩ := h
  rcases h2 with ⟨hv, h0⟩ | ⟨q, c, cur, hv, hb, hh, hn, hc, hx⟩
  · simp at h0
  · simp only [Value.slice.injEq] at hv
    obtain ⟨rfl, _, rfl⟩ := hv
    refine ⟨q, rfl, hb, lt_of_row hh, fun i u hu => ?_⟩
    rcases hs with h0 | ⟨a, off, ha, hcell⟩
    · cases h0
    · cases ha
      have := hcell 0 x rfl i u hu
      simpa using this
theorem own_end {α : Type} {U : World} {g base e k : Nat} {enc : α → List Value} {A : Option Addr} {cap : Nat} {xs : List α} (h : Own U base e k enc A cap xs) (hb : g + 2 < base) (u0 u1 u2 v0 v1 v2 : Value) :
    Own ((((((U.setCell ⟨g + 1, 0, none⟩ u0).setCell ⟨g + 1, 1, none⟩ u1).setCell ⟨g + 1, 2, none⟩ u2).setCell ⟨g + 1 + 1, 0, none⟩ v0).setCell ⟨g + 1 + 1, 1, none⟩ v1).setCell ⟨g + 1 + 1, 2, none⟩ v2).drew base e k enc A cap xs := by
  have k1 := h.ch ((((Ch.refl (g + 1) U).setCell 0 u0).setCell 1 u1).setCell 2 u2) (fun he => by have := (h.lt he).2; omega)
  generalize ((U.setCell ⟨g + 1, 0, none⟩ u0).setCell ⟨g + 1, 1, none⟩ u1).setCell ⟨g + 1, 2, none⟩ u2 = X at *
  exact (k1.ch ((((Ch.refl (g + 1 + 1) X).setCell 0 v0).setCell 1 v1).setCell 2 v2) (fun he => by have := (k1.lt he).2; omega)).gr (Gr.refl _).drew
theorem Own.set0 {α : Type} {w : World} {base e k q : Nat} {enc : α → List Value} {cap : Nat} {x x' : α} {xs : List α} (h : Own w base e k enc (some ⟨q, 0, none⟩) cap (x :: xs)) (u : Value) (he : (enc x).set 0 u = enc x') (hk : ∀ x, (enc x).length = k) (hk0 : 0 < k) :
    Own (w.setCell ⟨q, 0, none⟩ u) base e k enc (some ⟨q, 0, none⟩) cap (x' :: xs) := by
  obtain ⟨h1, h2⟩ := h
  rcases h2 with ⟨hv, h0⟩ | ⟨q', c, cur, hv, hb, hh, hn, hc, hz, hx⟩
  · simp at h0
  · simp only [Value.slice.injEq] at hv
    obtain ⟨hq, _, rfl⟩ := hv
    cases hq
    have e1 : (x' :: xs).flatMap enc = ((x :: xs).flatMap enc).set 0 u := by
      rw [List.flatMap_cons, List.flatMap_cons, List.set_append_left _ _ (by rw [hk]; exact hk0), he]
    refine ⟨by rw [e1, List.length_set]; exact h1, .inr ⟨q, _, _, rfl, hb, heap_setCell_same _ _ 0 _ _ _ hh, hn, hc, by rw [Array.size_setIfInBounds]; exact hz, ?_⟩⟩
    rw [e1, ← hx, Array.toList_setIfInBounds, List.take_set]
    rfl
/-- the row's block is a plain one -/
theorem Own.row {α : Type} {w : World} {base e k q : Nat} {enc : α → List Value} {cap : Nat} {x : α} {xs : List α} (h : Own w base e k enc (some ⟨q, 0, none⟩) cap (x :: xs)) : ∃ cur, w.heap[q]? = some (.cells cur e (0, 0)) := by
  obtain ⟨h1, h2⟩ := h
  rcases h2 with ⟨hv, h0⟩ | ⟨q', c, cur, hv, hb, hh, hn, hc, hz, hx⟩
  · simp at h0
  · simp only [Value.slice.injEq] at hv
    obtain ⟨hq, _, rfl⟩ := hv
    cases hq
    exact ⟨cur, hh⟩
theorem SpW.far {w U U' : World} {g ba bb q : Nat} {N R1 R2 PA PB : Array Value} (h : SpW w U g ba bb N R1 R2 PA PB) (hc : Ch q U U') (hq : g + 2 < q) (ha : ba < q) (hb : bb < q) : SpW w U' g ba bb N R1 R2 PA PB := by
  have hg := h.hg
  exact ⟨hc.gr h.gr (by omega), (hc.block _ (lt_of_row h.n) (by omega)).trans h.n, (hc.block _ (lt_of_row h.r1) (by omega)).trans h.r1, (hc.block _ (lt_of_row h.r2) (by omega)).trans h.r2, (hc.block _ (lt_of_row h.a) (by omega)).trans h.a, (hc.block _ (lt_of_row h.b) (by omega)).trans h.b, h.la, h.lb, h.ne, hg⟩
theorem Own.setMid {α : Type} {w : World} {base e k q : Nat} {enc : α → List Value} {cap : Nat} {x x' : α} {xs ys : List α} (h : Own w base e k enc (some ⟨q, 0, none⟩) cap (xs ++ x :: ys)) (u : Value) (he : (enc x).set 0 u = enc x') (hk : ∀ x, (enc x).length = k) (hk0 : 0 < k) :
    Own (w.setCell ⟨q, xs.length * k, none⟩ u) base e k enc (some ⟨q, 0, none⟩) cap (xs ++ x' :: ys) := by
  obtain ⟨h1, h2⟩ := h
  rcases h2 with ⟨hv, h0⟩ | ⟨q', c, cur, hv, hb, hh, hn, hc, hz, hx⟩
  · simp at h0
  · simp only [Value.slice.injEq] at hv
    obtain ⟨hq, _, rfl⟩ := hv
    cases hq
    have e1 : (xs ++ x' :: ys).flatMap enc = ((xs ++ x :: ys).flatMap enc).set (xs.length * k) u := by
      rw [List.flatMap_append, List.flatMap_append, List.set_append_right _ _ (by rw [cells_len k hk]; exact Nat.le_refl _), cells_len k hk, Nat.sub_self, List.flatMap_cons, List.flatMap_cons, List.set_append_left _ _ (by rw [hk]; exact hk0), he]
    have el : (xs ++ x' :: ys).length = (xs ++ x :: ys).length := by simp
    refine ⟨by rw [e1, List.length_set, el]; exact h1, .inr ⟨q, _, _, rfl, hb, heap_setCell_same _ _ _ _ _ _ hh, by rw [el]; exact hn, hc, by rw [Array.size_setIfInBounds]; exact hz, ?_⟩⟩
    rw [e1, ← hx, Array.toList_setIfInBounds, List.take_set, el]
theorem Own.some {α : Type} {w : World} {base e k : Nat} {enc : α → List Value} {A : Option Addr} {cap : Nat} {x : α} {xs ys : List α} (h : Own w base e k enc A cap (xs ++ x :: ys)) (hk : ∀ x, (enc x).length = k) : ∃ q, A = .some ⟨q, 0, none⟩ ∧ base ≤ q ∧ q < w.heap.size ∧ (∀ u, (enc x)[0]? = .some u → w.cell? ⟨q, xs.length * k, none⟩ = .some u) ∧ w.frozen? ⟨q, xs.length * k, none⟩ = false := by
  have hs := h.slice hk
  obtain ⟨h1, h2⟩ := h
  rcases h2 with ⟨hv, h0⟩ | ⟨q', c, cur, hv, hb, hh, hn, hc, hz, hx⟩
  · simp at h0
  · simp only [Value.slice.injEq] at hv
    obtain ⟨rfl, _, rfl⟩ := hv
    refine ⟨q', rfl, hb, lt_of_row hh, fun u hu => ?_, frozen_of_row _ _ _ _ _ hh⟩
    rcases hs with h0 | ⟨a, off, ha, hcell⟩
    · simp at h0
    · cases ha
      have := hcell xs.length x (by simp) 0 u hu
      simpa using this
/-- the document's Split's blocks: the node g, its two results -/
structure SqW (w U : World) (g : Nat) (N R1 R2 : Array Value) : Prop where
  gr : Gr w U
  n : U.heap[g]? = some (.cells N 32 (0, 0))
  r1 : U.heap[g + 1]? = some (.cells R1 32 (0, 0))
  r2 : U.heap[g + 1 + 1]? = some (.cells R2 32 (0, 0))
  hg : w.heap.size = g
theorem SqW.step {w U U' : World} {g : Nat} {N R1 R2 : Array Value} (h : SqW w U g N R1 R2) (hg : Gr U U') : SqW w U' g N R1 R2 :=
  ⟨h.gr.trans hg, (hg.block (lt_of_row h.n)).trans h.n, (hg.block (lt_of_row h.r1)).trans h.r1, (hg.block (lt_of_row h.r2)).trans h.r2, h.hg⟩
theorem SqW.far {w U U' : World} {g q : Nat} {N R1 R2 : Array Value} (h : SqW w U g N R1 R2) (hc : Ch q U U') (hq : g + 2 < q) : SqW w U' g N R1 R2 := by
  have hg := h.hg
  exact ⟨hc.gr h.gr (by omega), (hc.block _ (lt_of_row h.n) (by omega)).trans h.n, (hc.block _ (lt_of_row h.r1) (by omega)).trans h.r1, (hc.block _ (lt_of_row h.r2) (by omega)).trans h.r2, hg⟩
theorem set2_other (U : World) (b k : Nat) (u0 u1 : Value) (h : k ≠ b) : ((U.setCell ⟨b, 0, none⟩ u0).setCell ⟨b, 1, none⟩ u1).heap[k]? = U.heap[k]? := by
  rw [heap_setCell_other _ _ _ _ h, heap_setCell_other _ _ _ _ h]
theorem set2_same {U : World} {b : Nat} {a0 a1 : Value} {t : TypeId} (u0 u1 : Value) (h : U.heap[b]? = some (.cells #[a0, a1] t (0, 0))) : ((U.setCell ⟨b, 0, none⟩ u0).setCell ⟨b, 1, none⟩ u1).heap[b]? = some (.cells #[u0, u1] t (0, 0)) :=
  heap_setCell_same _ _ 1 _ _ _ (heap_setCell_same _ _ 0 _ _ _ h)
theorem set2_gr {w U : World} (b : Nat) (u0 u1 : Value) (h : Gr w U) (hb : w.heap.size ≤ b) : Gr w ((U.setCell ⟨b, 0, none⟩ u0).setCell ⟨b, 1, none⟩ u1) :=
  (((Ch.refl b U).setCell 0 _).setCell 1 _).gr h hb
theorem SqW.end1 {w U : World} {g : Nat} {N : Array Value} {a0 a1 b0 b1 : Value} (h : SqW w U g N #[a0, a1] #[b0, b1]) (u0 u1 v0 v1 : Value) :
    Gr w ((((U.setCell ⟨g + 1, 0, none⟩ u0).setCell ⟨g + 1, 1, none⟩ u1).setCell ⟨g + 1 + 1, 0, none⟩ v0).setCell ⟨g + 1 + 1, 1, none⟩ v1).drew ∧
    ((((U.setCell ⟨g + 1, 0, none⟩ u0).setCell ⟨g + 1, 1, none⟩ u1).setCell ⟨g + 1 + 1, 0, none⟩ v0).setCell ⟨g + 1 + 1, 1, none⟩ v1).drew.heap[g + 1]? = some (.cells #[u0, u1] 32 (0, 0)) ∧
    ((((U.setCell ⟨g + 1, 0, none⟩ u0).setCell ⟨g + 1, 1, none⟩ u1).setCell ⟨g + 1 + 1, 0, none⟩ v0).setCell ⟨g + 1 + 1, 1, none⟩ v1).drew.heap[g + 1 + 1]? = some (.cells #[v0, v1] 32 (0, 0)) := by
  have hg := h.hg
  have k1 := set2_gr (g + 1) u0 u1 h.gr (by omega)
  have k2 := set2_same u0 u1 h.r1
  have k3 := (set2_other U (g + 1) (g + 1 + 1) u0 u1 (by omega)).trans h.r2
  clear h
  generalize (U.setCell ⟨g + 1, 0, none⟩ u0).setCell ⟨g + 1, 1, none⟩ u1 = X at *
  have k4 := set2_gr (g + 1 + 1) v0 v1 k1 (by omega)
  have k5 := (set2_other X (g + 1 + 1) (g + 1) v0 v1 (by omega)).trans k2
  have k6 := set2_same v0 v1 k3
  generalize (X.setCell ⟨g + 1 + 1, 0, none⟩ v0).setCell ⟨g + 1 + 1, 1, none⟩ v1 = Y at *
  exact ⟨k4.drew, k5, k6⟩
theorem own_end2 {α : Type} {U : World} {g base e k : Nat} {enc : α → List Value} {A : Option Addr} {cap : Nat} {xs : List α} (h : Own U base e k enc A cap xs) (hb : g + 2 < base) (u0 u1 v0 v1 : Value) :
    Own ((((U.setCell ⟨g + 1, 0, none⟩ u0).setCell ⟨g + 1, 1, none⟩ u1).setCell ⟨g + 1 + 1, 0, none⟩ v0).setCell ⟨g + 1 + 1, 1, none⟩ v1).drew base e k enc A cap xs := by
  have k1 := h.ch (((Ch.refl (g + 1) U).setCell 0 u0).setCell 1 u1) (fun he => by have := (h.lt he).2; omega)
  generalize (U.setCell ⟨g + 1, 0, none⟩ u0).setCell ⟨g + 1, 1, none⟩ u1 = X at *
  exact (k1.ch (((Ch.refl (g + 1 + 1) X).setCell 0 v0).setCell 1 v1) (fun he => by have := (k1.lt he).2; omega)).gr (Gr.refl _).drew
/-- the document's Split's blocks, its halves too -/
structure SqX (w U : World) (g ba bb : Nat) (N R1 R2 PA PB : Array Value) : Prop where
  q : SqW w U g N R1 R2
  a : U.heap[ba]? = some (.cells PA 32 (0, 0))
  b : U.heap[bb]? = some (.cells PB 32 (0, 0))
  la : g + 2 < ba
  lb : g + 2 < bb
  ne : ba ≠ bb
section
variable {w U U' : World} {g ba bb : Nat} {N R1 R2 PA PB : Array Value}
theorem SqX.step (h : SqX w U g ba bb N R1 R2 PA PB) (hg : Gr U U') : SqX w U' g ba bb N R1 R2 PA PB :=
  ⟨h.q.step hg, (hg.block (lt_of_row h.a)).trans h.a, (hg.block (lt_of_row h.b)).trans h.b, h.la, h.lb, h.ne⟩
theorem SqX.far {q : Nat} (h : SqX w U g ba bb N R1 R2 PA PB) (hc : Ch q U U') (hq : g + 2 < q) (ha : ba ≠ q) (hb : bb ≠ q) : SqX w U' g ba bb N R1 R2 PA PB :=
  ⟨h.q.far hc hq, (hc.block _ (lt_of_row h.a) ha).trans h.a, (hc.block _ (lt_of_row h.b) hb).trans h.b, h.la, h.lb, h.ne⟩
theorem SqX.putA (h : SqX w U g ba bb N R1 R2 PA PB) (i : Nat) (u : Value) : SqX w (U.setCell ⟨ba, i, none⟩ u) g ba bb N R1 R2 (PA.setIfInBounds i u) PB :=
  ⟨h.q.far ((Ch.refl ba U).setCell i u) h.la, heap_setCell_same _ _ _ _ _ _ h.a, (heap_setCell_other _ _ _ _ h.ne.symm).trans h.b, h.la, h.lb, h.ne⟩
theorem SqX.putB (h : SqX w U g ba bb N R1 R2 PA PB) (i : Nat) (u : Value) : SqX w (U.setCell ⟨bb, i, none⟩ u) g ba bb N R1 R2 PA (PB.setIfInBounds i u) :=
  ⟨h.q.far ((Ch.refl bb U).setCell i u) h.lb, (heap_setCell_other _ _ _ _ h.ne).trans h.a, heap_setCell_same _ _ _ _ _ _ h.b, h.la, h.lb, h.ne⟩
end
theorem SqX.new {w V : World} {g : Nat} {leaf : Bool} {N R1 R2 : Array Value} (h : SqW w V g N R1 R2) :
    SqX w ((V.alloc (.cells #[.bool leaf, .slice none 0 0] 32)).alloc (.cells #[.bool leaf, .slice none 0 0] 32)).drew g V.heap.size (V.heap.size + 1) N R1 R2 #[.bool leaf, .slice none 0 0] #[.bool leaf, .slice none 0 0] ∧
    SqX w ((V.alloc (.cells #[.bool leaf, .slice none 0 0] 32)).alloc (.cells #[.bool leaf, .slice none 0 0] 32)).drew g (V.heap.size + 1) V.heap.size N R1 R2 #[.bool leaf, .slice none 0 0] #[.bool leaf, .slice none 0 0] := by
  have hl := lt_of_row h.r2
  have hG : Gr V ((V.alloc (.cells #[.bool leaf, .slice none 0 0] 32)).alloc (.cells #[.bool leaf, .slice none 0 0] 32)).drew := (((Gr.refl V).alloc _).alloc _).drew
  have e1 := heap_alloc_last (V.alloc (.cells #[.bool leaf, .slice none 0 0] 32)) (.cells #[.bool leaf, .slice none 0 0] 32)
  rw [alloc_size] at e1
  have e0 := (((Gr.refl (V.alloc (.cells #[.bool leaf, .slice none 0 0] 32))).alloc (.cells #[.bool leaf, .slice none 0 0] 32)).block (k := V.heap.size) (by rw [alloc_size]; omega)).trans (heap_alloc_last V (.cells #[.bool leaf, .slice none 0 0] 32))
  exact ⟨⟨h.step hG, e0, e1, by omega, by omega, by omega⟩, ⟨h.step hG, e1, e0, by omega, by omega, by omega⟩⟩
theorem SliceAt.news {α : Type} {w : World} {ad : Addr} {k : Nat} {enc : α → List Value} {xs : List α} (h : SliceAt w (some ad) k enc xs) (hk : ∀ x, (enc x).length = k) : ∀ j u, (xs.flatMap enc)[j]? = some u → w.cell? (ad.add j) = some u := by
  rcases h with h | ⟨a, off, ha, hc⟩
  · intro j u hu; rw [h] at hu; simp at hu
  · cases ha; exact slice_news hk hc
end Go.Proofs.Ytmpmfgkabjedpaa
namespace Go.Proofs.Ytmpmfgkabjedpaa
open Go.RowKit
set_option linter.unusedVariables false
set_option linter.unusedSimpArgs false
set_option maxRecDepth 100000
set_option maxHeartbeats 2000000
theorem nd_bare (q base cap : Nat) (y : Ki) (yt : List Ki) (w : World) (h : Own w base 61 2 kiCell (some ⟨q, 0, none⟩) cap (y :: yt)) :
    Calls Try.prog 42 #[.agg #[.bool false, .slice none 0 0, .slice (some ⟨q, 0, none⟩) (y :: yt).length cap]] w fun r w' => r = .returned (.tuple #[]) ∧ Own w' base 61 2 kiCell (some ⟨q, 0, none⟩) cap ((.empty, y.2) :: yt) ∧ Ch q w w' := by
  obtain ⟨n, hn⟩ : ∃ n, n = (y :: yt).length := ⟨_, rfl⟩
  rw [← hn]
  have hpos : (0 : Int) < ((n : Nat) : Int) := by rw [hn]; simp only [List.length_cons]; omega
  have hle := h.cap_le
  rw [← hn] at hle
  clear hn
  have HO : Hid (Own (w.alloc (.cells #[.bool false, .slice none 0 0, .slice (some ⟨q, 0, none⟩) n cap] 27)) base 61 2 kiCell (some ⟨q, 0, none⟩) cap (y :: yt)) := h.gr ((Gr.refl w).alloc _)
  have HC : Hid (Ch q w (w.alloc (.cells #[.bool false, .slice none 0 0, .slice (some ⟨q, 0, none⟩) n cap] 27))) := (Ch.refl q w).alloc _
  obtain ⟨q', hq, _, _, hcell⟩ := HO.out.head (fun _ => rfl)
  cases hq
  have k0 := hcell 0 _ rfl
  obtain ⟨cur, hrow⟩ := HO.out.row
  have f0 := frozen_of_row _ _ 0 _ _ hrow
  clear hcell hrow h
  go_enter Try.func42, Try.ntmps42
  go_wp2
  go_end0
  exact ⟨rfl, HO.out.set0 _ rfl (fun _ => rfl) (by omega), HC.out.setCell 0 _⟩
end Go.Proofs.Ytmpmfgkabjedpaa
