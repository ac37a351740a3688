/- Layer 10: a kid put into a branch (printed by ndinskid_gen.py). -/
import Derived.Test.YtmpmfgkabjedpaaMgDo21
import Derived.Test.YtmpmfgkabjedpaaMgDo32
import Derived.Test.YtmpmfgkabjedpaaMgDo35
import Derived.Test.YtmpmfgkabjedpaaMgDo37
import Derived.Deep.RegionLaw
namespace Go.Proofs.Ytmpmfgkabjedpaa
open Go.RowKit
set_option linter.unusedVariables false
set_option linter.unusedSimpArgs false
set_option maxRecDepth 100000
set_option maxHeartbeats 2000000
theorem nd_insertK (v : Value) (xs : List Ki) (hl : xs.length ≤ 3999) (hr : Rises (fun x : Ki => x.1) xs) (a0 : ByteArray) (a1 : Nat) (w : World) (h : KiAt w v xs) :
    Calls Try.prog 31 #[v, .agg #[.string a0, .int .u32 (a1 : Nat)]] w fun r w' => ∃ A cap, r = .returned (.agg #[.bool false, .slice none 0 0, .slice A (plc (fun x : Ki => x.1) xs (a0, a1)).length cap]) ∧ KiAt w' (.agg #[.bool false, .slice none 0 0, .slice A (plc (fun x : Ki => x.1) xs (a0, a1)).length cap]) (plc (fun x : Ki => x.1) xs (a0, a1)) ∧ Gr w w' := by
  obtain ⟨A, cap, rfl, hs, h1, h2⟩ := h
  have cP := fun w1 (hg : Gr w w1) => Lib.hid (ki_placed A cap xs h1 h2 hl hr a0 a1 w1 (hs.gr hg))
  clear hs hr
  generalize plc (fun x : Ki => x.1) xs (a0, a1) = ys at *
  obtain ⟨r0, r1, r2⟩ := heap_alloc3 w (.cells #[.bool false, .slice none 0 0, .slice A xs.length cap] 27) (.cells #[.string a0, .int .u32 (a1 : Nat)] 61) (.cells #[.bool false, .slice none 0 0, .slice none 0 0] 27)
  have HU : Hid (Gr w (((w.alloc (.cells #[.bool false, .slice none 0 0, .slice A xs.length cap] 27)).alloc (.cells #[.string a0, .int .u32 (a1 : Nat)] 61)).alloc (.cells #[.bool false, .slice none 0 0, .slice none 0 0] 27)) ∧ (((w.alloc (.cells #[.bool false, .slice none 0 0, .slice A xs.length cap] 27)).alloc (.cells #[.string a0, .int .u32 (a1 : Nat)] 61)).alloc (.cells #[.bool false, .slice none 0 0, .slice none 0 0] 27)).heap[w.heap.size]? = some (.cells #[.bool false, .slice none 0 0, .slice A xs.length cap] 27 (0, 0)) ∧ (((w.alloc (.cells #[.bool false, .slice none 0 0, .slice A xs.length cap] 27)).alloc (.cells #[.string a0, .int .u32 (a1 : Nat)] 61)).alloc (.cells #[.bool false, .slice none 0 0, .slice none 0 0] 27)).heap[w.heap.size + 1]? = some (.cells #[.string a0, .int .u32 (a1 : Nat)] 61 (0, 0)) ∧ (((w.alloc (.cells #[.bool false, .slice none 0 0, .slice A xs.length cap] 27)).alloc (.cells #[.string a0, .int .u32 (a1 : Nat)] 61)).alloc (.cells #[.bool false, .slice none 0 0, .slice none 0 0] 27)).heap[w.heap.size + 1 + 1]? = some (.cells #[.bool false, .slice none 0 0, .slice none 0 0] 27 (0, 0))) := ⟨(((Gr.refl w).alloc _).alloc _).alloc _, r0, r1, r2⟩
  clear r0 r1 r2
  go_enter Try.func31, Try.ntmps31
  go_wp2
  generalize ((w.alloc (.cells #[.bool false, .slice none 0 0, .slice A xs.length cap] 27)).alloc (.cells #[.string a0, .int .u32 (a1 : Nat)] 61)).alloc (.cells #[.bool false, .slice none 0 0, .slice none 0 0] 27) = U at *
  generalize hgw : w.heap.size = g at *
  have HGW := Lib.hid hgw
  clear hgw
  have n0 := row_cell HU.out.2.1 0 _ rfl
  have n1 := row_cell HU.out.2.1 1 _ rfl
  have n2 := row_cell HU.out.2.1 2 _ rfl
  have c0 := row_cell HU.out.2.2.1 0 _ rfl
  have c1 := row_cell HU.out.2.2.1 1 _ rfl
  go_region_law (first
    | (go_simp; go_at_call 40; refine (sl_kids _).mono ?_; rintro r v1 ⟨rfl, hg⟩; have hd := (Gr.refl U).drew.trans hg; have HG1 := Lib.hid hd; have p1 := hd.cells n2; have q0 := hd.cells c0; have q1 := hd.cells c1; clear hg hd)
    | (go_simp; go_at_call 64; refine (cP _ (HU.out.1.trans HG1.out)).out.mono ?_; rintro r v2 ⟨A2, cap2, rfl, ho, hg⟩; have HG2 := Lib.hid (HG1.out.trans hg); have hrow := (HG2.out.block (lt_of_row HU.out.2.1)).trans HU.out.2.1; have d1 := row_cell hrow 2 _ rfl; have f1 := frozen_of_row _ _ 2 _ _ hrow; have hsz : g + 1 + 1 < v1.heap.size := lt_of_row ((HG1.out.block (lt_of_row HU.out.2.2.2)).trans HU.out.2.2.2); have HO := Lib.hid (And.intro ho hsz); clear hg hrow ho hsz))
  all_goals
    have hgw : w.heap.size ≤ g := by rw [HGW.out]; exact Nat.le_refl _
    have hgw2 : w.heap.size ≤ g + 1 + 1 := by rw [HGW.out]; omega
    have hno : ownOf A2 ≠ some g := fun he => by have h5 := (HO.out.1.lt he).2; have h6 := HO.out.2; omega
    have hno2 : ownOf A2 ≠ some (g + 1 + 1) := fun he => by have h5 := (HO.out.1.lt he).2; have h6 := HO.out.2; omega
    have HU4 : Hid (Gr w (v2.setCell ⟨g, 2, none⟩ (.slice A2 ys.length cap2)) ∧ (v2.setCell ⟨g, 2, none⟩ (.slice A2 ys.length cap2)).heap[g]? = some (.cells #[.bool false, .slice none 0 0, .slice A2 ys.length cap2] 27 (0, 0)) ∧ (v2.setCell ⟨g, 2, none⟩ (.slice A2 ys.length cap2)).heap[g + 1 + 1]? = some (.cells #[.bool false, .slice none 0 0, .slice none 0 0] 27 (0, 0)) ∧ Own (v2.setCell ⟨g, 2, none⟩ (.slice A2 ys.length cap2)) v1.heap.size 61 2 kiCell A2 cap2 ys) :=
      ⟨((Ch.refl g v2).setCell 2 _).gr (HU.out.1.trans HG2.out) hgw, heap_setCell_same _ _ 2 _ _ _ ((HG2.out.block (lt_of_row HU.out.2.1)).trans HU.out.2.1), (heap_setCell_other _ _ _ _ (by show g + 1 + 1 ≠ g; omega)).trans ((HG2.out.block (lt_of_row HU.out.2.2.2)).trans HU.out.2.2.2), HO.out.1.ch ((Ch.refl g v2).setCell 2 _) hno⟩
    clear HU HG1 HG2 HO n0 n1 n2 c0 c1 p1 q0 q1 d1 f1 hno cP
    generalize v2.setCell ⟨g, 2, none⟩ (.slice A2 ys.length cap2) = U4 at *
    have n0 := row_cell HU4.out.2.1 0 _ rfl
    have n1 := row_cell HU4.out.2.1 1 _ rfl
    have n2 := row_cell HU4.out.2.1 2 _ rfl
    have y0 := row_cell HU4.out.2.2.1 0 _ rfl
    have y1 := row_cell HU4.out.2.2.1 1 _ rfl
    have y2 := row_cell HU4.out.2.2.1 2 _ rfl
    have fy0 := frozen_of_row _ _ 0 _ _ HU4.out.2.2.1
    have fy1 := frozen_of_row _ _ 1 _ _ HU4.out.2.2.1
    have fy2 := frozen_of_row _ _ 2 _ _ HU4.out.2.2.1
    go_wp2
    refine bodyPost_ret (results_cell_row rfl _ _ (g + 1 + 1) _ #[.bool false, .slice none 0 0, .slice A2 ys.length cap2] (0, 0) (.struct _) rfl (heap_setCell_same _ _ 2 _ _ (.slice A2 ys.length cap2) (heap_setCell_same _ _ 1 _ _ (.slice none 0 0) (heap_setCell_same _ _ 0 _ _ (.bool false) HU4.out.2.2.1))) Try.underlying27 rfl (by kernel_rfl)) rfl ⟨A2, cap2, rfl, ⟨A2, cap2, rfl, (HU4.out.2.2.2.ch ((((Ch.refl (g + 1 + 1) U4).setCell 0 (.bool false)).setCell 1 (.slice none 0 0)).setCell 2 (.slice A2 ys.length cap2)) hno2).slice kiCell_len, HU4.out.2.2.2.cap_le.1, HU4.out.2.2.2.cap_le.2⟩, ((((Ch.refl (g + 1 + 1) U4).setCell 0 (.bool false)).setCell 1 (.slice none 0 0)).setCell 2 (.slice A2 ys.length cap2)).gr HU4.out.1 hgw2⟩
end Go.Proofs.Ytmpmfgkabjedpaa
namespace Go.Proofs.Ytmpmfgkabjedpaa
open Go.RowKit
set_option linter.unusedVariables false
set_option linter.unusedSimpArgs false
set_option maxRecDepth 100000
set_option maxHeartbeats 2000000
theorem own_setOne {α : Type} {w : World} {base e k q cap : Nat} {enc : α → List Value} {xs : List α} (h : Own w base e k enc (some ⟨q, 0, none⟩) cap xs) (hk : ∀ x, (enc x).length = k) (i : Nat) (x x' : α) (hx : xs[i]? = some x) (j : Nat) (hj : j < k) (u : Value) (he : (enc x).set j u = enc x') :
    Own (w.setCell ⟨q, i * k + j, none⟩ u) base e k enc (some ⟨q, 0, none⟩) cap (xs.set i x') := by
  obtain ⟨cur, hh, hb, hn, hc, hz, ht⟩ := h.rowOf
  obtain ⟨hi, rfl⟩ := List.getElem?_eq_some_iff.1 hx
  refine Own.ofRow hk (heap_setCell_same _ _ _ _ _ u hh) hb (by rw [List.length_set]; exact hn) hc (by rw [Array.size_setIfInBounds]; exact hz) ?_
  rw [List.length_set, Array.toList_setIfInBounds, List.take_set, ht]
  have e1 : xs = xs.take i ++ xs[i] :: xs.drop (i + 1) := by rw [← List.drop_eq_getElem_cons hi, List.take_append_drop]
  have e2 : xs.set i x' = xs.take i ++ x' :: xs.drop (i + 1) := by rw [List.set_eq_take_append_cons_drop, if_pos hi]
  have hl : ((xs.take i).flatMap enc).length = i * k := by rw [cells_len k hk, List.length_take, Nat.min_eq_left (by omega)]
  have e3 : xs.flatMap enc = (xs.take i).flatMap enc ++ (enc xs[i] ++ (xs.drop (i + 1)).flatMap enc) := by
    conv => lhs; rw [e1]
    rw [List.flatMap_append, List.flatMap_cons]
  rw [e2, List.flatMap_append, List.flatMap_cons, e3, List.set_append_right _ _ (by rw [hl]; omega), hl, show i * k + j - i * k = j by omega, List.set_append_left _ _ (by rw [hk]; exact hj), he]
/-- the kid at a place leads elsewhere -/
def turnK (ys : List Ki) (i p : Nat) : List Ki := ys.set i (((ys[i]?).getD (.empty, 0)).1, p)
theorem ki_turn (v : Value) (ys : List Ki) (hl : ys.length ≤ 4000) (i : Nat) (hi : i < ys.length) (page : Nat) (w : World) (h : KiAt w v ys) :
    Calls Try.prog 30 #[v, .int .i64 (i : Nat), .int .u32 (page : Nat)] w fun r w' => ∃ A cap, r = .returned (.agg #[.bool false, .slice none 0 0, .slice A ys.length cap]) ∧ KiAt w' (.agg #[.bool false, .slice none 0 0, .slice A ys.length cap]) (turnK ys i page) ∧ Gr w w' := by
  have cH := fun w1 (hg : Gr w w1) => Lib.hid (ki_has v ys hl (i : Nat) (by unfold I64; omega) w1 (h.gr hg))
  rw [decide_eq_true (show (0 : Int) ≤ (i : Nat) ∧ ((i : Nat) : Int) < (ys.length : Int) by omega)] at cH
  obtain ⟨A, cap, rfl, hs, h1, h2⟩ := h
  have cC := fun w1 (h : Gr w w1) => Lib.hid (ki_clone A ys.length cap ys rfl h1 h2 hl w1 (hs.gr h))
  clear hs
  have hget := List.getElem?_eq_getElem hi
  have htk : turnK ys i page = ys.set i (ys[i].1, page) := by unfold turnK; rw [hget]; rfl
  rw [htk]
  clear htk
  generalize hyy : ys[i] = y at *
  clear hyy
  obtain ⟨y0, y1⟩ := y
  obtain ⟨_, r0, r2⟩ := pl_world w #[.bool false, .slice none 0 0, .slice A ys.length cap] #[.bool false, .slice none 0 0, .slice none 0 0] 27 27
  have HU : Hid (Gr w ((w.alloc (.cells #[.bool false, .slice none 0 0, .slice A ys.length cap] 27)).alloc (.cells #[.bool false, .slice none 0 0, .slice none 0 0] 27)) ∧ ((w.alloc (.cells #[.bool false, .slice none 0 0, .slice A ys.length cap] 27)).alloc (.cells #[.bool false, .slice none 0 0, .slice none 0 0] 27)).heap[w.heap.size]? = some (.cells #[.bool false, .slice none 0 0, .slice A ys.length cap] 27 (0, 0)) ∧ ((w.alloc (.cells #[.bool false, .slice none 0 0, .slice A ys.length cap] 27)).alloc (.cells #[.bool false, .slice none 0 0, .slice none 0 0] 27)).heap[w.heap.size + 1]? = some (.cells #[.bool false, .slice none 0 0, .slice none 0 0] 27 (0, 0))) := ⟨((Gr.refl w).alloc _).alloc _, r0, r2⟩
  clear r0 r2
  have hpos : 0 < ys.length := by omega
  go_enter Try.func30, Try.ntmps30
  go_wp2_with (first
    | (go_at_call 63; refine (cH _ HU.out.1).out.mono ?_; clear cH; rintro r v1 ⟨rfl, hg⟩; have HV := Lib.hid (And.intro (HU.out.1.trans hg) (And.intro ((hg.block (lt_of_row HU.out.2.1)).trans HU.out.2.1) ((hg.block (lt_of_row HU.out.2.2)).trans HU.out.2.2))); have n2 := row_cell HV.out.2.1 2 _ rfl; clear hg)
    | (go_at_call 41; refine (cC _ HV.out.1).out.mono ?_; clear cC; rintro r v2 ⟨A2, cap2, rfl, ho, hg⟩; obtain ⟨q, rfl⟩ := ho.blk hpos; have hq := (ho.lt (g := q) rfl).2; have hg1 : w.heap.size + 1 < v1.heap.size := lt_of_row HV.out.2.2; have HX := Lib.hid (And.intro (HV.out.1.trans hg) (And.intro ((hg.block (lt_of_row HV.out.2.1)).trans HV.out.2.1) (And.intro ((hg.block (lt_of_row HV.out.2.2)).trans HV.out.2.2) (And.intro ho (show w.heap.size + 1 < q by omega))))); have d0 := row_cell HX.out.2.1 0 _ rfl; have d1 := row_cell HX.out.2.1 1 _ rfl; have d2 := row_cell HX.out.2.1 2 _ rfl; have fd2 := frozen_of_row _ _ 2 _ _ HX.out.2.1; obtain ⟨cur, hrow, _, hnc, _, hcs, _⟩ := ho.rowOf; obtain ⟨c1, hc1⟩ := row_cellD hrow hcs.symm (i * 2 + 1) (by omega); have z1 := frozen_of_row _ _ (i * 2 + 1) _ _ hrow; have hne : ¬ q = w.heap.size := (by omega); have hne2 : ¬ w.heap.size = q := (by omega); have e0 := row_cell HX.out.2.2.1 0 _ rfl; have e1 := row_cell HX.out.2.2.1 1 _ rfl; have e2 := row_cell HX.out.2.2.1 2 _ rfl; have fe0 := frozen_of_row _ _ 0 _ _ HX.out.2.2.1; have fe1 := frozen_of_row _ _ 1 _ _ HX.out.2.2.1; have fe2 := frozen_of_row _ _ 2 _ _ HX.out.2.2.1; have hne3 : ¬ q = w.heap.size + 1 := (by omega); have hne4 : ¬ w.heap.size + 1 = q := (by omega); clear hg ho hq hg1 hrow))
  have hq := HX.out.2.2.2.2
  have hgr2 : Gr w ((v2.setCell ⟨w.heap.size, 2, none⟩ (.slice (some ⟨q, 0, none⟩) ys.length cap2)).setCell ⟨q, i * 2 + 1, none⟩ (.int .u32 (page : Nat))) := ((Ch.refl q _).setCell _ _).gr (((Ch.refl w.heap.size v2).setCell 2 _).gr HX.out.1 (Nat.le_refl _)) (by omega)
  have hown : Own ((v2.setCell ⟨w.heap.size, 2, none⟩ (.slice (some ⟨q, 0, none⟩) ys.length cap2)).setCell ⟨q, i * 2 + 1, none⟩ (.int .u32 (page : Nat))) v1.heap.size 61 2 kiCell (some ⟨q, 0, none⟩) cap2 (ys.set i (y0, page)) :=
    own_setOne (HX.out.2.2.2.1.ch ((Ch.refl w.heap.size v2).setCell 2 _) (fun he => by have h9 : q = w.heap.size := Option.some.inj he; omega)) kiCell_len i (y0, y1) (y0, page) hget 1 (by omega) _ rfl
  have hrow : ((v2.setCell ⟨w.heap.size, 2, none⟩ (.slice (some ⟨q, 0, none⟩) ys.length cap2)).setCell ⟨q, i * 2 + 1, none⟩ (.int .u32 (page : Nat))).heap[w.heap.size + 1]? = some (.cells #[.bool false, .slice none 0 0, .slice none 0 0] 27 (0, 0)) :=
    (heap_setCell_other _ _ _ _ (by show w.heap.size + 1 ≠ q; omega)).trans ((heap_setCell_other _ _ _ _ (by show w.heap.size + 1 ≠ w.heap.size; omega)).trans HX.out.2.2.1)
  refine bodyPost_ret (results_cell_row rfl _ _ (w.heap.size + 1) _ #[.bool false, .slice none 0 0, .slice (some ⟨q, 0, none⟩) ys.length cap2] (0, 0) (.struct _) rfl (set3_same (.bool false) (.slice none 0 0) (.slice (some ⟨q, 0, none⟩) ys.length cap2) hrow) Try.underlying27 rfl (by kernel_rfl)) rfl ⟨some ⟨q, 0, none⟩, cap2, rfl, ⟨some ⟨q, 0, none⟩, cap2, by rw [List.length_set], (hown.ch (((Ch.refl (w.heap.size + 1) _).setCell 0 (.bool false)).setCell 1 (.slice none 0 0) |>.setCell 2 (.slice (some ⟨q, 0, none⟩) ys.length cap2)) (fun he => by have h9 : q = w.heap.size + 1 := Option.some.inj he; omega)).slice kiCell_len, hown.cap_le.1, hown.cap_le.2⟩, set3_gr (w.heap.size + 1) _ _ _ hgr2 (by omega)⟩
theorem nd_bare0 (A : Option Addr) (cap : Nat) (w : World) :
    Calls Try.prog 42 #[.agg #[.bool false, .slice none 0 0, .slice A 0 cap]] w fun r w' => r = .returned (.tuple #[]) ∧ Gr w w' := by
  have HW : Hid (Gr w (w.alloc (.cells #[.bool false, .slice none 0 0, .slice A 0 cap] 27))) := (Gr.refl w).alloc _
  go_enter Try.func42, Try.ntmps42
  go_wp2
  go_end0
  exact ⟨rfl, HW.out⟩
/-- without the kid at a place; the first kid's key is empty -/
def removeK (ys : List Ki) (i : Nat) : List Ki := setK1 .empty (ys.eraseIdx i)
theorem ki_remove (v : Value) (ys : List Ki) (hl : ys.length ≤ 4000) (i : Nat) (hi : i < ys.length) (w : World) (h : KiAt w v ys) :
    Calls Try.prog 32 #[v, .int .i64 (i : Nat)] w fun r w' => ∃ A cap, r = .returned (.agg #[.bool false, .slice none 0 0, .slice A (removeK ys i).length cap]) ∧ KiAt w' (.agg #[.bool false, .slice none 0 0, .slice A (removeK ys i).length cap]) (removeK ys i) ∧ Gr w w' := by
  have cH := fun w1 (hg : Gr w w1) => Lib.hid (ki_has v ys hl (i : Nat) (by unfold I64; omega) w1 (h.gr hg))
  rw [decide_eq_true (show (0 : Int) ≤ (i : Nat) ∧ ((i : Nat) : Int) < (ys.length : Int) by omega)] at cH
  obtain ⟨A, cap, rfl, hs, h1, h2⟩ := h
  have cC := fun w1 (h : Gr w w1) => Lib.hid (ki_clone A ys.length cap ys rfl h1 h2 hl w1 (hs.gr h))
  have cD := fun q cap2 b w1 h => Lib.hid (ki_delete q cap2 ys i (i + 1) hi rfl b w1 h)
  rw [show (((i + 1 : Nat)) : Int) = (i : Int) + 1 by omega] at cD
  have hw1 : IntKind.i64.wrap ((i : Int) + 1) = (i : Int) + 1 := by rw [IntKind.wrap_i64]; omega
  clear hs
  obtain ⟨_, r0, r2⟩ := pl_world w #[.bool false, .slice none 0 0, .slice A ys.length cap] #[.bool false, .slice none 0 0, .slice none 0 0] 27 27
  have HU : Hid (Gr w ((w.alloc (.cells #[.bool false, .slice none 0 0, .slice A ys.length cap] 27)).alloc (.cells #[.bool false, .slice none 0 0, .slice none 0 0] 27)) ∧ ((w.alloc (.cells #[.bool false, .slice none 0 0, .slice A ys.length cap] 27)).alloc (.cells #[.bool false, .slice none 0 0, .slice none 0 0] 27)).heap[w.heap.size]? = some (.cells #[.bool false, .slice none 0 0, .slice A ys.length cap] 27 (0, 0)) ∧ ((w.alloc (.cells #[.bool false, .slice none 0 0, .slice A ys.length cap] 27)).alloc (.cells #[.bool false, .slice none 0 0, .slice none 0 0] 27)).heap[w.heap.size + 1]? = some (.cells #[.bool false, .slice none 0 0, .slice none 0 0] 27 (0, 0))) := ⟨((Gr.refl w).alloc _).alloc _, r0, r2⟩
  clear r0 r2
  have hpos : 0 < ys.length := by omega
  unfold removeK
  cases hz : ys.eraseIdx i with
  | nil =>
    rw [hz] at cD
    clear hz
    simp only [setK1, List.length_nil] at cD ⊢
    go_enter Try.func32, Try.ntmps32
    go_wp2_with (first
      | (go_at_call 63; refine (cH _ HU.out.1).out.mono ?_; clear cH; rintro r v1 ⟨rfl, hg⟩; have HV := Lib.hid (And.intro (HU.out.1.trans hg) (And.intro ((hg.block (lt_of_row HU.out.2.1)).trans HU.out.2.1) ((hg.block (lt_of_row HU.out.2.2)).trans HU.out.2.2))); have n2 := row_cell HV.out.2.1 2 _ rfl; clear hg)
      | (go_at_call 41; refine (cC _ HV.out.1).out.mono ?_; clear cC; rintro r v2 ⟨A2, cap2, rfl, ho, hg⟩; obtain ⟨q, rfl⟩ := ho.blk hpos; have hq := (ho.lt (g := q) rfl).2; have hg1 : w.heap.size + 1 < v1.heap.size := lt_of_row HV.out.2.2; have HX := Lib.hid (And.intro (HV.out.1.trans hg) (And.intro ((hg.block (lt_of_row HV.out.2.1)).trans HV.out.2.1) (And.intro ((hg.block (lt_of_row HV.out.2.2)).trans HV.out.2.2) (And.intro ho (show w.heap.size + 1 < q by omega))))); clear hg ho hq hg1)
      | (go_at_call 65; refine (cD _ _ _ _ HX.out.2.2.2.1).out.mono ?_; clear cD; rintro r v3 ⟨rfl, ho, hc⟩; have hq := HX.out.2.2.2.2; have hrow := (hc.block _ (lt_of_row HX.out.2.1) (by omega)).trans HX.out.2.1; have hres := (hc.block _ (lt_of_row HX.out.2.2.1) (by omega)).trans HX.out.2.2.1; have d2 := row_cell hrow 2 _ rfl; have fd2 := frozen_of_row _ _ 2 _ _ hrow; have HE : Hid (Gr w (v3.setCell ⟨w.heap.size, 2, none⟩ (.slice (some ⟨q, 0, none⟩) 0 cap2)) ∧ (v3.setCell ⟨w.heap.size, 2, none⟩ (.slice (some ⟨q, 0, none⟩) 0 cap2)).heap[w.heap.size]? = some (.cells #[.bool false, .slice none 0 0, .slice (some ⟨q, 0, none⟩) 0 cap2] 27 (0, 0)) ∧ (v3.setCell ⟨w.heap.size, 2, none⟩ (.slice (some ⟨q, 0, none⟩) 0 cap2)).heap[w.heap.size + 1]? = some (.cells #[.bool false, .slice none 0 0, .slice none 0 0] 27 (0, 0)) ∧ Own (v3.setCell ⟨w.heap.size, 2, none⟩ (.slice (some ⟨q, 0, none⟩) 0 cap2)) v1.heap.size 61 2 kiCell (some ⟨q, 0, none⟩) cap2 ([] : List Ki) ∧ w.heap.size + 1 < q) := ⟨((Ch.refl w.heap.size v3).setCell 2 _).gr (hc.gr HX.out.1 (by omega)) (Nat.le_refl _), heap_setCell_same _ _ 2 _ _ _ hrow, (heap_setCell_other _ _ _ _ (by show w.heap.size + 1 ≠ w.heap.size; omega)).trans hres, ho.ch ((Ch.refl w.heap.size v3).setCell 2 _) (fun he => (by have h9 : q = w.heap.size := Option.some.inj he; omega)), hq⟩; have b0 := row_cell HE.out.2.1 0 _ rfl; have b1 := row_cell HE.out.2.1 1 _ rfl; have b2 := row_cell HE.out.2.1 2 _ rfl; clear ho hc hq hrow hres)
      | (go_at_call 42; refine (nd_bare0 (some ⟨q, 0, none⟩) cap2 _).mono ?_; rintro r v4 ⟨rfl, hg⟩; have hq := HE.out.2.2.2.2; have hrow := (hg.block (lt_of_row HE.out.2.1)).trans HE.out.2.1; have hres := (hg.block (lt_of_row HE.out.2.2.1)).trans HE.out.2.2.1; have HF : Hid (Gr w v4 ∧ v4.heap[w.heap.size]? = some (.cells #[.bool false, .slice none 0 0, .slice (some ⟨q, 0, none⟩) 0 cap2] 27 (0, 0)) ∧ v4.heap[w.heap.size + 1]? = some (.cells #[.bool false, .slice none 0 0, .slice none 0 0] 27 (0, 0)) ∧ Own v4 v1.heap.size 61 2 kiCell (some ⟨q, 0, none⟩) cap2 ([] : List Ki)) := ⟨HE.out.1.trans hg, hrow, hres, HE.out.2.2.2.1.gr hg⟩; have p0 := row_cell hrow 0 _ rfl; have p1 := row_cell hrow 1 _ rfl; have p2 := row_cell hrow 2 _ rfl; have e0 := row_cell hres 0 _ rfl; have e1 := row_cell hres 1 _ rfl; have e2 := row_cell hres 2 _ rfl; have fe0 := frozen_of_row _ _ 0 _ _ hres; have fe1 := frozen_of_row _ _ 1 _ _ hres; have fe2 := frozen_of_row _ _ 2 _ _ hres; clear hq hrow hres hg))
    have hq := HE.out.2.2.2.2
    refine bodyPost_ret (results_cell_row rfl _ _ (w.heap.size + 1) _ #[.bool false, .slice none 0 0, .slice (some ⟨q, 0, none⟩) 0 cap2] (0, 0) (.struct _) rfl (set3_same (.bool false) (.slice none 0 0) (.slice (some ⟨q, 0, none⟩) 0 cap2) HF.out.2.2.1) Try.underlying27 rfl (by kernel_rfl)) rfl ⟨some ⟨q, 0, none⟩, cap2, rfl, ⟨some ⟨q, 0, none⟩, cap2, rfl, (HF.out.2.2.2.ch (((Ch.refl (w.heap.size + 1) _).setCell 0 (.bool false)).setCell 1 (.slice none 0 0) |>.setCell 2 (.slice (some ⟨q, 0, none⟩) 0 cap2)) (fun he => by have h9 : q = w.heap.size + 1 := Option.some.inj he; omega)).slice kiCell_len, HF.out.2.2.2.cap_le.1, HF.out.2.2.2.cap_le.2⟩, set3_gr (w.heap.size + 1) _ _ _ HF.out.1 (by omega)⟩
  | cons y yt =>
    rw [hz] at cD
    clear hz
    have hsk : setK1 .empty (y :: yt) = (.empty, y.2) :: yt := rfl
    rw [hsk]
    clear hsk
    obtain ⟨n, hn⟩ : ∃ n, n = (y :: yt).length := ⟨_, rfl⟩
    have hn2 : ((ByteArray.empty, y.2) :: yt).length = n := by rw [hn]; rfl
    rw [hn2]
    rw [← hn] at cD
    have cB := fun q b cap2 w1 h => Lib.hid (nd_bare q b cap2 y yt w1 h)
    rw [← hn] at cB
    have HN2 := Lib.hid hn2
    clear hn hn2
    go_enter Try.func32, Try.ntmps32
    go_wp2_with (first
      | (go_at_call 63; refine (cH _ HU.out.1).out.mono ?_; clear cH; rintro r v1 ⟨rfl, hg⟩; have HV := Lib.hid (And.intro (HU.out.1.trans hg) (And.intro ((hg.block (lt_of_row HU.out.2.1)).trans HU.out.2.1) ((hg.block (lt_of_row HU.out.2.2)).trans HU.out.2.2))); have n2 := row_cell HV.out.2.1 2 _ rfl; clear hg)
      | (go_at_call 41; refine (cC _ HV.out.1).out.mono ?_; clear cC; rintro r v2 ⟨A2, cap2, rfl, ho, hg⟩; obtain ⟨q, rfl⟩ := ho.blk hpos; have hq := (ho.lt (g := q) rfl).2; have hg1 : w.heap.size + 1 < v1.heap.size := lt_of_row HV.out.2.2; have HX := Lib.hid (And.intro (HV.out.1.trans hg) (And.intro ((hg.block (lt_of_row HV.out.2.1)).trans HV.out.2.1) (And.intro ((hg.block (lt_of_row HV.out.2.2)).trans HV.out.2.2) (And.intro ho (show w.heap.size + 1 < q by omega))))); clear hg ho hq hg1)
      | (go_at_call 65; refine (cD _ _ _ _ HX.out.2.2.2.1).out.mono ?_; clear cD; rintro r v3 ⟨rfl, ho, hc⟩; have hq := HX.out.2.2.2.2; have hrow := (hc.block _ (lt_of_row HX.out.2.1) (by omega)).trans HX.out.2.1; have hres := (hc.block _ (lt_of_row HX.out.2.2.1) (by omega)).trans HX.out.2.2.1; have d2 := row_cell hrow 2 _ rfl; have fd2 := frozen_of_row _ _ 2 _ _ hrow; have HE : Hid (Gr w (v3.setCell ⟨w.heap.size, 2, none⟩ (.slice (some ⟨q, 0, none⟩) n cap2)) ∧ (v3.setCell ⟨w.heap.size, 2, none⟩ (.slice (some ⟨q, 0, none⟩) n cap2)).heap[w.heap.size]? = some (.cells #[.bool false, .slice none 0 0, .slice (some ⟨q, 0, none⟩) n cap2] 27 (0, 0)) ∧ (v3.setCell ⟨w.heap.size, 2, none⟩ (.slice (some ⟨q, 0, none⟩) n cap2)).heap[w.heap.size + 1]? = some (.cells #[.bool false, .slice none 0 0, .slice none 0 0] 27 (0, 0)) ∧ Own (v3.setCell ⟨w.heap.size, 2, none⟩ (.slice (some ⟨q, 0, none⟩) n cap2)) v1.heap.size 61 2 kiCell (some ⟨q, 0, none⟩) cap2 (y :: yt) ∧ w.heap.size + 1 < q) := ⟨((Ch.refl w.heap.size v3).setCell 2 _).gr (hc.gr HX.out.1 (by omega)) (Nat.le_refl _), heap_setCell_same _ _ 2 _ _ _ hrow, (heap_setCell_other _ _ _ _ (by show w.heap.size + 1 ≠ w.heap.size; omega)).trans hres, ho.ch ((Ch.refl w.heap.size v3).setCell 2 _) (fun he => (by have h9 : q = w.heap.size := Option.some.inj he; omega)), hq⟩; have b0 := row_cell HE.out.2.1 0 _ rfl; have b1 := row_cell HE.out.2.1 1 _ rfl; have b2 := row_cell HE.out.2.1 2 _ rfl; clear ho hc hq hrow hres)
      | (go_at_call 42; refine (cB q _ cap2 _ HE.out.2.2.2.1).out.mono ?_; clear cB; rintro r v4 ⟨rfl, ho, hc⟩; have hq := HE.out.2.2.2.2; have hrow := (hc.block _ (lt_of_row HE.out.2.1) (by omega)).trans HE.out.2.1; have hres := (hc.block _ (lt_of_row HE.out.2.2.1) (by omega)).trans HE.out.2.2.1; have HF : Hid (Gr w v4 ∧ v4.heap[w.heap.size]? = some (.cells #[.bool false, .slice none 0 0, .slice (some ⟨q, 0, none⟩) n cap2] 27 (0, 0)) ∧ v4.heap[w.heap.size + 1]? = some (.cells #[.bool false, .slice none 0 0, .slice none 0 0] 27 (0, 0)) ∧ Own v4 v1.heap.size 61 2 kiCell (some ⟨q, 0, none⟩) cap2 ((.empty, y.2) :: yt)) := ⟨hc.gr HE.out.1 (by omega), hrow, hres, ho⟩; have p0 := row_cell hrow 0 _ rfl; have p1 := row_cell hrow 1 _ rfl; have p2 := row_cell hrow 2 _ rfl; have e0 := row_cell hres 0 _ rfl; have e1 := row_cell hres 1 _ rfl; have e2 := row_cell hres 2 _ rfl; have fe0 := frozen_of_row _ _ 0 _ _ hres; have fe1 := frozen_of_row _ _ 1 _ _ hres; have fe2 := frozen_of_row _ _ 2 _ _ hres; clear hq hrow hres ho hc))
    have hq := HE.out.2.2.2.2
    refine bodyPost_ret (results_cell_row rfl _ _ (w.heap.size + 1) _ #[.bool false, .slice none 0 0, .slice (some ⟨q, 0, none⟩) n cap2] (0, 0) (.struct _) rfl (set3_same (.bool false) (.slice none 0 0) (.slice (some ⟨q, 0, none⟩) n cap2) HF.out.2.2.1) Try.underlying27 rfl (by kernel_rfl)) rfl ⟨some ⟨q, 0, none⟩, cap2, rfl, ⟨some ⟨q, 0, none⟩, cap2, by rw [HN2.out], (HF.out.2.2.2.ch (((Ch.refl (w.heap.size + 1) _).setCell 0 (.bool false)).setCell 1 (.slice none 0 0) |>.setCell 2 (.slice (some ⟨q, 0, none⟩) n cap2)) (fun he => by have h9 : q = w.heap.size + 1 := Option.some.inj he; omega)).slice kiCell_len, HF.out.2.2.2.cap_le.1, HF.out.2.2.2.cap_le.2⟩, set3_gr (w.heap.size + 1) _ _ _ HF.out.1 (by omega)⟩
end Go.Proofs.Ytmpmfgkabjedpaa
