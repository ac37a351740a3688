/- Layer 10: node.placed at api.Cell (printed by ndplc_gen.py). -/
import Derived.Test.YtmpmfgkabjedpaaMgDo10
import Derived.Test.YtmpmfgkabjedpaaMgDo17
import Derived.Test.YtmpmfgkabjedpaaMgDo21
import Derived.Test.YtmpmfgkabjedpaaMgDo24
import Derived.Test.YtmpmfgkabjedpaaMgDo30
import Derived.Test.YtmpmfgkabjedpaaMgDo31
import Derived.Deep.RegionLaw
namespace Go.Proofs.Ytmpmfgkabjedpaa
open Go.RowKit
set_option linter.unusedVariables false
set_option linter.unusedSimpArgs false
set_option maxRecDepth 100000
set_option maxHeartbeats 4000000
theorem lf_placed (A : Option Addr) (cap : Nat) (xs : List Ce) (hcap : xs.length ≤ cap) (hcm : cap ≤ maxLen) (hl : xs.length ≤ 3999) (hr : Rises (fun x : Ce => x.1) xs) (a0 : ByteArray) (a1 : ByteArray) (a2 : Nat) (a3 : Nat) (w : World) (hs : SliceAt w A 4 ceCell xs) :
    Calls Try.prog 62 #[.agg #[.func (.func 68) #[] #[], .func (.func 69) #[] #[], .func (.func 70) #[] #[], .func (.func 71) #[] #[]], .slice A xs.length cap, .agg #[.string a0, .string a1, .int .u32 (a2 : Nat), .int .u32 (a3 : Nat)]] w fun r w' => ∃ A' cap', r = .returned (.slice A' (plc (fun x : Ce => x.1) xs (a0, a1, a2, a3)).length cap') ∧ Own w' w.heap.size 59 4 ceCell A' cap' (plc (fun x : Ce => x.1) xs (a0, a1, a2, a3)) ∧ Gr w w' := by
  have cF := fun w1 (h : Gr w w1) => Lib.hid (lf_find A cap xs hcap hcm a0 (fun a b x y hab hx hy hb => hr.mono a0 a b x y hab hx hy hb) (by omega) w1 (hs.gr h))
  have cC := fun w1 (h : Gr w w1) => Lib.hid (lf_clone A xs.length cap xs rfl hcap hcm (by omega) w1 (hs.gr h))
  have hat := fdAt_le (fun x : Ce => x.1) xs a0
  have hisl : fdIs (fun x : Ce => x.1) xs a0 = true → fdAt (fun x : Ce => x.1) xs a0 < xs.length := by
    intro h
    unfold fdIs at h
    rcases Nat.lt_or_ge (fdAt (fun x : Ce => x.1) xs a0) xs.length with h1 | h1
    · exact h1
    · rw [List.getElem?_eq_none h1] at h; cases h
  have hr0 := heap_alloc_last w (.cells #[.func (.func 68) #[] #[], .func (.func 69) #[] #[], .func (.func 70) #[] #[], .func (.func 71) #[] #[]] 79)
  have HW : Hid (Gr w (w.alloc (.cells #[.func (.func 68) #[] #[], .func (.func 69) #[] #[], .func (.func 70) #[] #[], .func (.func 71) #[] #[]] 79)) ∧ (w.alloc (.cells #[.func (.func 68) #[] #[], .func (.func 69) #[] #[], .func (.func 70) #[] #[], .func (.func 71) #[] #[]] 79)).heap[w.heap.size]? = some (.cells #[.func (.func 68) #[] #[], .func (.func 69) #[] #[], .func (.func 70) #[] #[], .func (.func 71) #[] #[]] 79 (0, 0))) := ⟨(Gr.refl w).alloc _, hr0⟩
  clear hr0 hs hr
  unfold plc
  by_cases hok : fdIs (fun x : Ce => x.1) xs a0 = true
  · rw [hok] at cF
    have hlt := hisl hok
    have hif : (if fdIs (fun x : Ce => x.1) xs ((a0, a1, a2, a3) : Ce).1 = true then xs.set (fdAt (fun x : Ce => x.1) xs ((a0, a1, a2, a3) : Ce).1) (a0, a1, a2, a3) else xs.take (fdAt (fun x : Ce => x.1) xs ((a0, a1, a2, a3) : Ce).1) ++ (a0, a1, a2, a3) :: xs.drop (fdAt (fun x : Ce => x.1) xs ((a0, a1, a2, a3) : Ce).1)) = xs.set (fdAt (fun x : Ce => x.1) xs a0) (a0, a1, a2, a3) := if_pos hok
    rw [hif]
    clear hif hisl hok
    generalize fdAt (fun x : Ce => x.1) xs a0 = i at *
    have hpos : 0 < xs.length := by omega
    go_enter Try.func62, Try.ntmps62
    go_wp2
    have HU := Lib.hid (pl_world w #[.func (.func 68) #[] #[], .func (.func 69) #[] #[], .func (.func 70) #[] #[], .func (.func 71) #[] #[]] #[.string a0, .string a1, .int .u32 (a2 : Nat), .int .u32 (a3 : Nat)] 79 59)
    generalize (w.alloc (.cells #[.func (.func 68) #[] #[], .func (.func 69) #[] #[], .func (.func 70) #[] #[], .func (.func 71) #[] #[]] 79)).alloc (.cells #[.string a0, .string a1, .int .u32 (a2 : Nat), .int .u32 (a3 : Nat)] 59) = U at *
    generalize hgw : w.heap.size = g at *
    have HQ : Hid (U.cell? ⟨g, 0, none⟩ = some (.func (.func 68) #[] #[]) ∧ U.cell? ⟨g, 1, none⟩ = some (.func (.func 69) #[] #[]) ∧ U.cell? ⟨g, 2, none⟩ = some (.func (.func 70) #[] #[]) ∧ U.cell? ⟨g, 3, none⟩ = some (.func (.func 71) #[] #[]) ∧ U.cell? ⟨g + 1, 0, none⟩ = some (.string a0) ∧ U.cell? ⟨g + 1, 1, none⟩ = some (.string a1) ∧ U.cell? ⟨g + 1, 2, none⟩ = some (.int .u32 (a2 : Nat)) ∧ U.cell? ⟨g + 1, 3, none⟩ = some (.int .u32 (a3 : Nat))) := ⟨row_cell HU.out.2.1 0 _ rfl, row_cell HU.out.2.1 1 _ rfl, row_cell HU.out.2.1 2 _ rfl, row_cell HU.out.2.1 3 _ rfl, row_cell HU.out.2.2 0 _ rfl, row_cell HU.out.2.2 1 _ rfl, row_cell HU.out.2.2 2 _ rfl, row_cell HU.out.2.2 3 _ rfl⟩
    go_region_held3 (fun w' => w'.cell? ⟨g, 0, none⟩ = some (.func (.func 68) #[] #[]) ∧ w'.cell? ⟨g, 1, none⟩ = some (.func (.func 69) #[] #[]) ∧ w'.cell? ⟨g, 2, none⟩ = some (.func (.func 70) #[] #[]) ∧ w'.cell? ⟨g, 3, none⟩ = some (.func (.func 71) #[] #[]) ∧ w'.cell? ⟨g + 1, 0, none⟩ = some (.string a0) ∧ w'.cell? ⟨g + 1, 1, none⟩ = some (.string a1) ∧ w'.cell? ⟨g + 1, 2, none⟩ = some (.int .u32 (a2 : Nat)) ∧ w'.cell? ⟨g + 1, 3, none⟩ = some (.int .u32 (a3 : Nat))) (first | exact HQ.out | assumption)
      (first
        | (go_at_call 70; refine (sl_keyLeaf a0 a1 a2 a3 _).mono ?_; rintro r v1 ⟨rfl, hg⟩; have hd := (Gr.refl U).drew.trans hg; have HG1 := Lib.hid (HU.out.1.trans hd); have HQ : Hid (v1.cell? ⟨g, 0, none⟩ = some (.func (.func 68) #[] #[]) ∧ v1.cell? ⟨g, 1, none⟩ = some (.func (.func 69) #[] #[]) ∧ v1.cell? ⟨g, 2, none⟩ = some (.func (.func 70) #[] #[]) ∧ v1.cell? ⟨g, 3, none⟩ = some (.func (.func 71) #[] #[]) ∧ v1.cell? ⟨g + 1, 0, none⟩ = some (.string a0) ∧ v1.cell? ⟨g + 1, 1, none⟩ = some (.string a1) ∧ v1.cell? ⟨g + 1, 2, none⟩ = some (.int .u32 (a2 : Nat)) ∧ v1.cell? ⟨g + 1, 3, none⟩ = some (.int .u32 (a3 : Nat))) := ⟨hd.cells HQ.out.1, hd.cells HQ.out.2.1, hd.cells HQ.out.2.2.1, hd.cells HQ.out.2.2.2.1, hd.cells HQ.out.2.2.2.2.1, hd.cells HQ.out.2.2.2.2.2.1, hd.cells HQ.out.2.2.2.2.2.2.1, hd.cells HQ.out.2.2.2.2.2.2.2⟩; clear hg hd)
        | (go_at_call 60; refine (cF _ HG1.out).out.mono ?_; clear cF; rintro r v2 ⟨rfl, hg⟩; have HG2 := Lib.hid (HG1.out.trans hg); have HQ : Hid (v2.cell? ⟨g, 0, none⟩ = some (.func (.func 68) #[] #[]) ∧ v2.cell? ⟨g, 1, none⟩ = some (.func (.func 69) #[] #[]) ∧ v2.cell? ⟨g, 2, none⟩ = some (.func (.func 70) #[] #[]) ∧ v2.cell? ⟨g, 3, none⟩ = some (.func (.func 71) #[] #[]) ∧ v2.cell? ⟨g + 1, 0, none⟩ = some (.string a0) ∧ v2.cell? ⟨g + 1, 1, none⟩ = some (.string a1) ∧ v2.cell? ⟨g + 1, 2, none⟩ = some (.int .u32 (a2 : Nat)) ∧ v2.cell? ⟨g + 1, 3, none⟩ = some (.int .u32 (a3 : Nat))) := ⟨hg.cells HQ.out.1, hg.cells HQ.out.2.1, hg.cells HQ.out.2.2.1, hg.cells HQ.out.2.2.2.1, hg.cells HQ.out.2.2.2.2.1, hg.cells HQ.out.2.2.2.2.2.1, hg.cells HQ.out.2.2.2.2.2.2.1, hg.cells HQ.out.2.2.2.2.2.2.2⟩; clear hg))
    go_wp2_with (first
      | (go_at_call 38; refine (cC _ HG2.out).out.mono ?_; clear cC; rintro r v3 ⟨A2, cap2, rfl, ho, hg⟩; have HG3 := Lib.hid (HG2.out.trans hg); have hz := HG2.out.size; obtain ⟨q, rfl⟩ := ho.blk (by omega); have HB := Lib.hid (show g + 1 < q from Nat.lt_of_lt_of_le (block_lt_of_cell HQ.out.2.2.2.2.1) (by have h9 := (ho.lt (g := q) rfl).2; exact h9)); have ho2 := ho.mono hz; obtain ⟨cur, hrow, _, hnc, _, hcs, _⟩ := ho2.rowOf; have HO := Lib.hid ho2; have HQ3 : Hid (v3.cell? ⟨g + 1, 0, none⟩ = some (.string a0) ∧ v3.cell? ⟨g + 1, 1, none⟩ = some (.string a1) ∧ v3.cell? ⟨g + 1, 2, none⟩ = some (.int .u32 (a2 : Nat)) ∧ v3.cell? ⟨g + 1, 3, none⟩ = some (.int .u32 (a3 : Nat))) := ⟨hg.cells HQ.out.2.2.2.2.1, hg.cells HQ.out.2.2.2.2.2.1, hg.cells HQ.out.2.2.2.2.2.2.1, hg.cells HQ.out.2.2.2.2.2.2.2⟩; have x0 := HQ3.out.1; have x1 := HQ3.out.2.1; have x2 := HQ3.out.2.2.1; have x3 := HQ3.out.2.2.2; obtain ⟨c0, hc0⟩ := row_cellD hrow hcs.symm (i * 4) (by omega); have z0 := frozen_of_row _ _ (i * 4) _ _ hrow; obtain ⟨c1, hc1⟩ := row_cellD hrow hcs.symm (i * 4 + 1) (by omega); have z1 := frozen_of_row _ _ (i * 4 + 1) _ _ hrow; obtain ⟨c2, hc2⟩ := row_cellD hrow hcs.symm (i * 4 + 2) (by omega); have z2 := frozen_of_row _ _ (i * 4 + 2) _ _ hrow; obtain ⟨c3, hc3⟩ := row_cellD hrow hcs.symm (i * 4 + 3) (by omega); have z3 := frozen_of_row _ _ (i * 4 + 3) _ _ hrow; clear hg ho ho2 hz hrow))
    go_ret
    have hgq : w.heap.size ≤ q := by have := HB.out; omega
    exact ⟨some ⟨q, 0, none⟩, cap2, by rw [List.length_set]; rfl, HO.out.setAt ceCell_len i hlt (a0, a1, a2, a3), (((((Ch.refl q v3).setCell (i * 4) (.string a0)).setCell (i * 4 + 1) (.string a1)).setCell (i * 4 + 2) (.int .u32 (a2 : Nat))).setCell (i * 4 + 3) (.int .u32 (a3 : Nat))).gr HG3.out hgq⟩
  · have hok2 : fdIs (fun x : Ce => x.1) xs a0 = false := by simpa using hok
    rw [hok2] at cF
    have hif : (if fdIs (fun x : Ce => x.1) xs ((a0, a1, a2, a3) : Ce).1 = true then xs.set (fdAt (fun x : Ce => x.1) xs ((a0, a1, a2, a3) : Ce).1) (a0, a1, a2, a3) else xs.take (fdAt (fun x : Ce => x.1) xs ((a0, a1, a2, a3) : Ce).1) ++ (a0, a1, a2, a3) :: xs.drop (fdAt (fun x : Ce => x.1) xs ((a0, a1, a2, a3) : Ce).1)) = xs.take (fdAt (fun x : Ce => x.1) xs a0) ++ (a0, a1, a2, a3) :: xs.drop (fdAt (fun x : Ce => x.1) xs a0) := if_neg hok
    rw [hif]
    clear hif hisl hok hok2
    generalize fdAt (fun x : Ce => x.1) xs a0 = i at *
    go_enter Try.func62, Try.ntmps62
    go_wp2
    have HU := Lib.hid (pl_world w #[.func (.func 68) #[] #[], .func (.func 69) #[] #[], .func (.func 70) #[] #[], .func (.func 71) #[] #[]] #[.string a0, .string a1, .int .u32 (a2 : Nat), .int .u32 (a3 : Nat)] 79 59)
    generalize (w.alloc (.cells #[.func (.func 68) #[] #[], .func (.func 69) #[] #[], .func (.func 70) #[] #[], .func (.func 71) #[] #[]] 79)).alloc (.cells #[.string a0, .string a1, .int .u32 (a2 : Nat), .int .u32 (a3 : Nat)] 59) = U at *
    generalize hgw : w.heap.size = g at *
    have HQ : Hid (U.cell? ⟨g, 0, none⟩ = some (.func (.func 68) #[] #[]) ∧ U.cell? ⟨g, 1, none⟩ = some (.func (.func 69) #[] #[]) ∧ U.cell? ⟨g, 2, none⟩ = some (.func (.func 70) #[] #[]) ∧ U.cell? ⟨g, 3, none⟩ = some (.func (.func 71) #[] #[]) ∧ U.cell? ⟨g + 1, 0, none⟩ = some (.string a0) ∧ U.cell? ⟨g + 1, 1, none⟩ = some (.string a1) ∧ U.cell? ⟨g + 1, 2, none⟩ = some (.int .u32 (a2 : Nat)) ∧ U.cell? ⟨g + 1, 3, none⟩ = some (.int .u32 (a3 : Nat))) := ⟨row_cell HU.out.2.1 0 _ rfl, row_cell HU.out.2.1 1 _ rfl, row_cell HU.out.2.1 2 _ rfl, row_cell HU.out.2.1 3 _ rfl, row_cell HU.out.2.2 0 _ rfl, row_cell HU.out.2.2 1 _ rfl, row_cell HU.out.2.2 2 _ rfl, row_cell HU.out.2.2 3 _ rfl⟩
    go_region_held3 (fun w' => w'.cell? ⟨g, 0, none⟩ = some (.func (.func 68) #[] #[]) ∧ w'.cell? ⟨g, 1, none⟩ = some (.func (.func 69) #[] #[]) ∧ w'.cell? ⟨g, 2, none⟩ = some (.func (.func 70) #[] #[]) ∧ w'.cell? ⟨g, 3, none⟩ = some (.func (.func 71) #[] #[]) ∧ w'.cell? ⟨g + 1, 0, none⟩ = some (.string a0) ∧ w'.cell? ⟨g + 1, 1, none⟩ = some (.string a1) ∧ w'.cell? ⟨g + 1, 2, none⟩ = some (.int .u32 (a2 : Nat)) ∧ w'.cell? ⟨g + 1, 3, none⟩ = some (.int .u32 (a3 : Nat))) (first | exact HQ.out | assumption)
      (first
        | (go_at_call 70; refine (sl_keyLeaf a0 a1 a2 a3 _).mono ?_; rintro r v1 ⟨rfl, hg⟩; have hd := (Gr.refl U).drew.trans hg; have HG1 := Lib.hid (HU.out.1.trans hd); have HQ : Hid (v1.cell? ⟨g, 0, none⟩ = some (.func (.func 68) #[] #[]) ∧ v1.cell? ⟨g, 1, none⟩ = some (.func (.func 69) #[] #[]) ∧ v1.cell? ⟨g, 2, none⟩ = some (.func (.func 70) #[] #[]) ∧ v1.cell? ⟨g, 3, none⟩ = some (.func (.func 71) #[] #[]) ∧ v1.cell? ⟨g + 1, 0, none⟩ = some (.string a0) ∧ v1.cell? ⟨g + 1, 1, none⟩ = some (.string a1) ∧ v1.cell? ⟨g + 1, 2, none⟩ = some (.int .u32 (a2 : Nat)) ∧ v1.cell? ⟨g + 1, 3, none⟩ = some (.int .u32 (a3 : Nat))) := ⟨hd.cells HQ.out.1, hd.cells HQ.out.2.1, hd.cells HQ.out.2.2.1, hd.cells HQ.out.2.2.2.1, hd.cells HQ.out.2.2.2.2.1, hd.cells HQ.out.2.2.2.2.2.1, hd.cells HQ.out.2.2.2.2.2.2.1, hd.cells HQ.out.2.2.2.2.2.2.2⟩; clear hg hd)
        | (go_at_call 60; refine (cF _ HG1.out).out.mono ?_; clear cF; rintro r v2 ⟨rfl, hg⟩; have HG2 := Lib.hid (HG1.out.trans hg); have HQ : Hid (v2.cell? ⟨g, 0, none⟩ = some (.func (.func 68) #[] #[]) ∧ v2.cell? ⟨g, 1, none⟩ = some (.func (.func 69) #[] #[]) ∧ v2.cell? ⟨g, 2, none⟩ = some (.func (.func 70) #[] #[]) ∧ v2.cell? ⟨g, 3, none⟩ = some (.func (.func 71) #[] #[]) ∧ v2.cell? ⟨g + 1, 0, none⟩ = some (.string a0) ∧ v2.cell? ⟨g + 1, 1, none⟩ = some (.string a1) ∧ v2.cell? ⟨g + 1, 2, none⟩ = some (.int .u32 (a2 : Nat)) ∧ v2.cell? ⟨g + 1, 3, none⟩ = some (.int .u32 (a3 : Nat))) := ⟨hg.cells HQ.out.1, hg.cells HQ.out.2.1, hg.cells HQ.out.2.2.1, hg.cells HQ.out.2.2.2.1, hg.cells HQ.out.2.2.2.2.1, hg.cells HQ.out.2.2.2.2.2.1, hg.cells HQ.out.2.2.2.2.2.2.1, hg.cells HQ.out.2.2.2.2.2.2.2⟩; clear hg))
    go_wp2_with (first
      | (go_at_call 38; refine (cC _ HG2.out).out.mono ?_; clear cC; rintro r v3 ⟨A2, cap2, rfl, ho, hg⟩; have HG3 := Lib.hid (HG2.out.trans hg); have hz := HG2.out.size; have HO := Lib.hid (ho.mono hz); have HQ3 : Hid (v3.cell? ⟨g + 1, 0, none⟩ = some (.string a0) ∧ v3.cell? ⟨g + 1, 1, none⟩ = some (.string a1) ∧ v3.cell? ⟨g + 1, 2, none⟩ = some (.int .u32 (a2 : Nat)) ∧ v3.cell? ⟨g + 1, 3, none⟩ = some (.int .u32 (a3 : Nat))) := ⟨hg.cells HQ.out.2.2.2.2.1, hg.cells HQ.out.2.2.2.2.2.1, hg.cells HQ.out.2.2.2.2.2.2.1, hg.cells HQ.out.2.2.2.2.2.2.2⟩; have x0 := HQ3.out.1; have x1 := HQ3.out.2.1; have x2 := HQ3.out.2.2.1; have x3 := HQ3.out.2.2.2; clear hg ho hz)
      | (go_at_call 105; refine (lf_insert A2 cap2 xs i hat (by omega) (a0, a1, a2, a3) _ w.heap.size w _ (HG3.out.alloc _) (Nat.le_refl _) (HG3.out.alloc _).size (HO.out.gr ((Gr.refl _).alloc _)) (heap_alloc_last _ _) (fun he => Nat.lt_irrefl _ (HO.out.lt he).1) HG3.out.size).mono ?_; rintro r v4 ⟨A3, cap3, rfl, ho, hg⟩; have HE := Lib.hid (And.intro ho hg); clear ho hg))
    have hln : (xs.take i ++ ((a0, a1, a2, a3) : Ce) :: xs.drop i).length = xs.length + 1 := by simp; omega
    go_ret
    exact ⟨A3, cap3, by rw [hln]; rfl, HE.out.1, HE.out.2⟩
end Go.Proofs.Ytmpmfgkabjedpaa
namespace Go.Proofs.Ytmpmfgkabjedpaa
open Go.RowKit
set_option linter.unusedVariables false
set_option linter.unusedSimpArgs false
set_option maxRecDepth 100000
set_option maxHeartbeats 2000000
theorem lf_put (v : Value) (xs : List Ce) (hl : xs.length ≤ 3999) (hr : Rises (fun x : Ce => x.1) xs) (a0 : ByteArray) (a1 : ByteArray) (a2 a3 : Nat) (w : World) (h : LfAt w v xs) :
    Calls Try.prog 28 #[v, .agg #[.string a0, .string a1, .int .u32 (a2 : Nat), .int .u32 (a3 : Nat)]] w fun r w' => ∃ A cap, r = .returned (.agg #[.bool true, .slice A (plc (fun x : Ce => x.1) xs (a0, a1, a2, a3)).length cap, .slice none 0 0]) ∧ LfAt w' (.agg #[.bool true, .slice A (plc (fun x : Ce => x.1) xs (a0, a1, a2, a3)).length cap, .slice none 0 0]) (plc (fun x : Ce => x.1) xs (a0, a1, a2, a3)) ∧ Gr w w' := by
  obtain ⟨A, cap, rfl, hs, h1, h2⟩ := h
  have cP := fun w1 (hg : Gr w w1) => Lib.hid (lf_placed A cap xs h1 h2 hl hr a0 a1 a2 a3 w1 (hs.gr hg))
  clear hs hr
  generalize plc (fun x : Ce => x.1) xs (a0, a1, a2, a3) = ys at *
  obtain ⟨r0, r1, r2⟩ := heap_alloc3 w (.cells #[.bool true, .slice A xs.length cap, .slice none 0 0] 27) (.cells #[.string a0, .string a1, .int .u32 (a2 : Nat), .int .u32 (a3 : Nat)] 59) (.cells #[.bool false, .slice none 0 0, .slice none 0 0] 27)
  have HU : Hid (Gr w (((w.alloc (.cells #[.bool true, .slice A xs.length cap, .slice none 0 0] 27)).alloc (.cells #[.string a0, .string a1, .int .u32 (a2 : Nat), .int .u32 (a3 : Nat)] 59)).alloc (.cells #[.bool false, .slice none 0 0, .slice none 0 0] 27)) ∧ (((w.alloc (.cells #[.bool true, .slice A xs.length cap, .slice none 0 0] 27)).alloc (.cells #[.string a0, .string a1, .int .u32 (a2 : Nat), .int .u32 (a3 : Nat)] 59)).alloc (.cells #[.bool false, .slice none 0 0, .slice none 0 0] 27)).heap[w.heap.size]? = some (.cells #[.bool true, .slice A xs.length cap, .slice none 0 0] 27 (0, 0)) ∧ (((w.alloc (.cells #[.bool true, .slice A xs.length cap, .slice none 0 0] 27)).alloc (.cells #[.string a0, .string a1, .int .u32 (a2 : Nat), .int .u32 (a3 : Nat)] 59)).alloc (.cells #[.bool false, .slice none 0 0, .slice none 0 0] 27)).heap[w.heap.size + 1]? = some (.cells #[.string a0, .string a1, .int .u32 (a2 : Nat), .int .u32 (a3 : Nat)] 59 (0, 0)) ∧ (((w.alloc (.cells #[.bool true, .slice A xs.length cap, .slice none 0 0] 27)).alloc (.cells #[.string a0, .string a1, .int .u32 (a2 : Nat), .int .u32 (a3 : Nat)] 59)).alloc (.cells #[.bool false, .slice none 0 0, .slice none 0 0] 27)).heap[w.heap.size + 1 + 1]? = some (.cells #[.bool false, .slice none 0 0, .slice none 0 0] 27 (0, 0))) := ⟨(((Gr.refl w).alloc _).alloc _).alloc _, r0, r1, r2⟩
  clear r0 r1 r2
  go_enter Try.func28, Try.ntmps28
  go_wp2
  generalize ((w.alloc (.cells #[.bool true, .slice A xs.length cap, .slice none 0 0] 27)).alloc (.cells #[.string a0, .string a1, .int .u32 (a2 : Nat), .int .u32 (a3 : Nat)] 59)).alloc (.cells #[.bool false, .slice none 0 0, .slice none 0 0] 27) = U at *
  generalize hgw : w.heap.size = g at *
  have HGW := Lib.hid hgw
  clear hgw
  have n0 := row_cell HU.out.2.1 0 _ rfl
  have n1 := row_cell HU.out.2.1 1 _ rfl
  have n2 := row_cell HU.out.2.1 2 _ rfl
  have c0 := row_cell HU.out.2.2.1 0 _ rfl
  have c1 := row_cell HU.out.2.2.1 1 _ rfl
  have c2 := row_cell HU.out.2.2.1 2 _ rfl
  have c3 := row_cell HU.out.2.2.1 3 _ rfl
  go_region_law (first
    | (go_simp; go_at_call 37; refine (sl_leaves _).mono ?_; rintro r v1 ⟨rfl, hg⟩; have hd := (Gr.refl U).drew.trans hg; have HG1 := Lib.hid hd; have p1 := hd.cells n1; have q0 := hd.cells c0; have q1 := hd.cells c1; have q2 := hd.cells c2; have q3 := hd.cells c3; clear hg hd)
    | (go_simp; go_at_call 62; refine (cP _ (HU.out.1.trans HG1.out)).out.mono ?_; rintro r v2 ⟨A2, cap2, rfl, ho, hg⟩; have HG2 := Lib.hid (HG1.out.trans hg); have hrow := (HG2.out.block (lt_of_row HU.out.2.1)).trans HU.out.2.1; have d1 := row_cell hrow 1 _ rfl; have f1 := frozen_of_row _ _ 1 _ _ hrow; have hsz : g + 1 + 1 < v1.heap.size := lt_of_row ((HG1.out.block (lt_of_row HU.out.2.2.2)).trans HU.out.2.2.2); have HO := Lib.hid (And.intro ho hsz); clear hg hrow ho hsz))
  all_goals
    have hgw : w.heap.size ≤ g := by rw [HGW.out]; exact Nat.le_refl _
    have hgw2 : w.heap.size ≤ g + 1 + 1 := by rw [HGW.out]; omega
    have hno : ownOf A2 ≠ some g := fun he => by have h5 := (HO.out.1.lt he).2; have h6 := HO.out.2; omega
    have hno2 : ownOf A2 ≠ some (g + 1 + 1) := fun he => by have h5 := (HO.out.1.lt he).2; have h6 := HO.out.2; omega
    have HU4 : Hid (Gr w (v2.setCell ⟨g, 1, none⟩ (.slice A2 ys.length cap2)) ∧ (v2.setCell ⟨g, 1, none⟩ (.slice A2 ys.length cap2)).heap[g]? = some (.cells #[.bool true, .slice A2 ys.length cap2, .slice none 0 0] 27 (0, 0)) ∧ (v2.setCell ⟨g, 1, none⟩ (.slice A2 ys.length cap2)).heap[g + 1 + 1]? = some (.cells #[.bool false, .slice none 0 0, .slice none 0 0] 27 (0, 0)) ∧ Own (v2.setCell ⟨g, 1, none⟩ (.slice A2 ys.length cap2)) v1.heap.size 59 4 ceCell A2 cap2 ys) :=
      ⟨((Ch.refl g v2).setCell 1 _).gr (HU.out.1.trans HG2.out) hgw, heap_setCell_same _ _ 1 _ _ _ ((HG2.out.block (lt_of_row HU.out.2.1)).trans HU.out.2.1), (heap_setCell_other _ _ _ _ (by show g + 1 + 1 ≠ g; omega)).trans ((HG2.out.block (lt_of_row HU.out.2.2.2)).trans HU.out.2.2.2), HO.out.1.ch ((Ch.refl g v2).setCell 1 _) hno⟩
    clear HU HG1 HG2 HO n0 n1 n2 c0 c1 c2 c3 p1 q0 q1 q2 q3 d1 f1 hno cP
    generalize v2.setCell ⟨g, 1, none⟩ (.slice A2 ys.length cap2) = U4 at *
    have n0 := row_cell HU4.out.2.1 0 _ rfl
    have n1 := row_cell HU4.out.2.1 1 _ rfl
    have n2 := row_cell HU4.out.2.1 2 _ rfl
    have y0 := row_cell HU4.out.2.2.1 0 _ rfl
    have y1 := row_cell HU4.out.2.2.1 1 _ rfl
    have y2 := row_cell HU4.out.2.2.1 2 _ rfl
    have fy0 := frozen_of_row _ _ 0 _ _ HU4.out.2.2.1
    have fy1 := frozen_of_row _ _ 1 _ _ HU4.out.2.2.1
    have fy2 := frozen_of_row _ _ 2 _ _ HU4.out.2.2.1
    go_wp2
    refine bodyPost_ret (results_cell_row rfl _ _ (g + 1 + 1) _ #[.bool true, .slice A2 ys.length cap2, .slice none 0 0] (0, 0) (.struct _) rfl (heap_setCell_same _ _ 2 _ _ (.slice none 0 0) (heap_setCell_same _ _ 1 _ _ (.slice A2 ys.length cap2) (heap_setCell_same _ _ 0 _ _ (.bool true) HU4.out.2.2.1))) Try.underlying27 rfl (by kernel_rfl)) rfl ⟨A2, cap2, rfl, ⟨A2, cap2, rfl, (HU4.out.2.2.2.ch ((((Ch.refl (g + 1 + 1) U4).setCell 0 (.bool true)).setCell 1 (.slice A2 ys.length cap2)).setCell 2 (.slice none 0 0)) hno2).slice ceCell_len, HU4.out.2.2.2.cap_le.1, HU4.out.2.2.2.cap_le.2⟩, ((((Ch.refl (g + 1 + 1) U4).setCell 0 (.bool true)).setCell 1 (.slice A2 ys.length cap2)).setCell 2 (.slice none 0 0)).gr HU4.out.1 hgw2⟩
end Go.Proofs.Ytmpmfgkabjedpaa
namespace Go.Proofs.Ytmpmfgkabjedpaa
open Go.RowKit
set_option linter.unusedVariables false
set_option linter.unusedSimpArgs false
set_option maxRecDepth 100000
set_option maxHeartbeats 2000000
theorem results_cct {fn : Func} {p u q : Tmp} {ty ty2 : TypeId} (h : fn.results = #[.cell p ty, .cell q ty2, .tmp u]) (tmps : Array Value) (P : Program) (w : World) :
    (results fn tmps).run P w =
      ((asAddr (tmps.getD p undef)).run P w).andThen fun a w₁ => ((loadVar ty a).run P w₁).andThen fun v w₂ => ((asAddr (tmps.getD q undef)).run P w₂).andThen fun a' w₃ => ((loadVar ty2 a').run P w₃).andThen fun v' w₄ => .ok (.tuple #[v, v', tmps.getD u undef]) w₄ := by
  simp only [results, h]
  simp [Sem.run_bind, Result.andThen]
theorem results_c_c_t {P : Program} {fn : Func} {p u q : Tmp} {ty ty2 : TypeId} (h : fn.results = #[.cell p ty, .cell q ty2, .tmp u]) (tmps : Array Value) (w : World) (g g2 : Nat) (t t2 : TypeId) (cs cs2 : Array Value) (fr fr2 : Nat × Nat) (d d2 : TypeDesc)
    (hp : tmps.getD p undef = .pointer (some ⟨g, 0, none⟩)) (hg : w.heap[g]? = some (.cells cs t fr))
    (hu : P.underlying ty = some d) (hd : (match d with | .struct _ | .array _ _ => true | _ => false) = true) (hi : (P.info? ty).map (·.size) = some cs.size)
    (hp2 : tmps.getD q undef = .pointer (some ⟨g2, 0, none⟩)) (hg2 : w.heap[g2]? = some (.cells cs2 t2 fr2))
    (hu2 : P.underlying ty2 = some d2) (hd2 : (match d2 with | .struct _ | .array _ _ => true | _ => false) = true) (hi2 : (P.info? ty2).map (·.size) = some cs2.size) :
    (results fn tmps).run P w = .ok (.tuple #[.agg cs, .agg cs2, tmps.getD u undef]) w := by
  rw [results_cct h, hp, hp2]
  simp [asAddr, Result.andThen, run_loadVar_row w g t ty cs fr d hg hu hd hi, run_loadVar_row w g2 t2 ty2 cs2 fr2 d2 hg2 hu2 hd2 hi2]
theorem heap_drew (w : World) (k : Nat) : w.drew.heap[k]? = w.heap[k]? := rfl
theorem set4_other (U : World) (b k : Nat) (u0 u1 u2 u3 : Value) (h : k ≠ b) : ((((U.setCell ⟨b, 0, none⟩ u0).setCell ⟨b, 1, none⟩ u1).setCell ⟨b, 2, none⟩ u2).setCell ⟨b, 3, none⟩ u3).heap[k]? = U.heap[k]? :=
  (heap_setCell_other _ _ _ _ h).trans (set3_other U b k u0 u1 u2 h)
theorem set4_same {U : World} {b : Nat} {a0 a1 a2 a3 : Value} {t : TypeId} (u0 u1 u2 u3 : Value) (h : U.heap[b]? = some (.cells #[a0, a1, a2, a3] t (0, 0))) : ((((U.setCell ⟨b, 0, none⟩ u0).setCell ⟨b, 1, none⟩ u1).setCell ⟨b, 2, none⟩ u2).setCell ⟨b, 3, none⟩ u3).heap[b]? = some (.cells #[u0, u1, u2, u3] t (0, 0)) :=
  heap_setCell_same _ _ 3 _ _ u3 (heap_setCell_same _ _ 2 _ _ u2 (heap_setCell_same _ _ 1 _ _ u1 (heap_setCell_same _ _ 0 _ _ u0 h)))
theorem set4_gr {w U : World} (b : Nat) (u0 u1 u2 u3 : Value) (h : Gr w U) (hb : w.heap.size ≤ b) : Gr w ((((U.setCell ⟨b, 0, none⟩ u0).setCell ⟨b, 1, none⟩ u1).setCell ⟨b, 2, none⟩ u2).setCell ⟨b, 3, none⟩ u3) :=
  (((((Ch.refl b U).setCell 0 u0).setCell 1 u1).setCell 2 u2).setCell 3 u3).gr h hb
/-- the cell with a key, or none -/
def cutC (xs : List Ce) (k : ByteArray) : Ce := if fdIs (fun x : Ce => x.1) xs k = true then (xs[fdAt (fun x : Ce => x.1) xs k]?).getD (⟨#[]⟩, ⟨#[]⟩, 0, 0) else (⟨#[]⟩, ⟨#[]⟩, 0, 0)
theorem lf_cut (v : Value) (xs : List Ce) (hl : xs.length ≤ 4000) (hr : Rises (fun x : Ce => x.1) xs) (key : ByteArray) (w : World) (h : LfAt w v xs) :
    Calls Try.prog 26 #[v, .string key] w fun r w' => ∃ A cap, r = .returned (.tuple #[.agg #[.bool true, .slice A (cut (fun x : Ce => x.1) xs key).length cap, .slice none 0 0], .agg #[.string (cutC xs key).1, .string (cutC xs key).2.1, .int .u32 ((cutC xs key).2.2.1 : Nat), .int .u32 ((cutC xs key).2.2.2 : Nat)], .bool (fdIs (fun x : Ce => x.1) xs key)]) ∧ LfAt w' (.agg #[.bool true, .slice A (cut (fun x : Ce => x.1) xs key).length cap, .slice none 0 0]) (cut (fun x : Ce => x.1) xs key) ∧ Gr w w' := by
  obtain ⟨A, cap, rfl, hs, h1, h2⟩ := h
  have cF := fun w1 (hg : Gr w w1) => Lib.hid (lf_find A cap xs h1 h2 key (fun a b x y hab hx hy hb => hr.mono key a b x y hab hx hy hb) (by omega) w1 (hs.gr hg))
  have HS := Lib.hid hs
  obtain ⟨r0, r1, r2⟩ := heap_alloc3 w (.cells #[.bool true, .slice A xs.length cap, .slice none 0 0] 27) (.cells #[.bool false, .slice none 0 0, .slice none 0 0] 27) (.cells #[.string { data := #[] }, .string { data := #[] }, .int .u32 0, .int .u32 0] 59)
  have HU : Hid (Gr w (((w.alloc (.cells #[.bool true, .slice A xs.length cap, .slice none 0 0] 27)).alloc (.cells #[.bool false, .slice none 0 0, .slice none 0 0] 27)).alloc (.cells #[.string { data := #[] }, .string { data := #[] }, .int .u32 0, .int .u32 0] 59)) ∧ (((w.alloc (.cells #[.bool true, .slice A xs.length cap, .slice none 0 0] 27)).alloc (.cells #[.bool false, .slice none 0 0, .slice none 0 0] 27)).alloc (.cells #[.string { data := #[] }, .string { data := #[] }, .int .u32 0, .int .u32 0] 59)).heap[w.heap.size]? = some (.cells #[.bool true, .slice A xs.length cap, .slice none 0 0] 27 (0, 0)) ∧ (((w.alloc (.cells #[.bool true, .slice A xs.length cap, .slice none 0 0] 27)).alloc (.cells #[.bool false, .slice none 0 0, .slice none 0 0] 27)).alloc (.cells #[.string { data := #[] }, .string { data := #[] }, .int .u32 0, .int .u32 0] 59)).heap[w.heap.size + 1]? = some (.cells #[.bool false, .slice none 0 0, .slice none 0 0] 27 (0, 0)) ∧ (((w.alloc (.cells #[.bool true, .slice A xs.length cap, .slice none 0 0] 27)).alloc (.cells #[.bool false, .slice none 0 0, .slice none 0 0] 27)).alloc (.cells #[.string { data := #[] }, .string { data := #[] }, .int .u32 0, .int .u32 0] 59)).heap[w.heap.size + 1 + 1]? = some (.cells #[.string { data := #[] }, .string { data := #[] }, .int .u32 0, .int .u32 0] 59 (0, 0))) := ⟨(((Gr.refl w).alloc _).alloc _).alloc _, r0, r1, r2⟩
  clear r0 r1 r2
  have hisl : fdIs (fun x : Ce => x.1) xs key = true → fdAt (fun x : Ce => x.1) xs key < xs.length := by
    intro h
    unfold fdIs at h
    rcases Nat.lt_or_ge (fdAt (fun x : Ce => x.1) xs key) xs.length with h1 | h1
    · exact h1
    · rw [List.getElem?_eq_none h1] at h; cases h
  unfold cut cutC
  by_cases hok : fdIs (fun x : Ce => x.1) xs key = true
  · have hlt := hisl hok
    rw [hok] at cF
    rw [hok, if_pos rfl, if_pos rfl]
    clear hisl hok hr
    generalize fdAt (fun x : Ce => x.1) xs key = i at *
    obtain ⟨ys, hys⟩ : ∃ ys, ys = xs.eraseIdx i := ⟨_, rfl⟩
    rw [← hys]
    rcases hs with h0 | ⟨a, off, rfl, hcell⟩
    · subst h0; simp at hlt
    have hget := List.getElem?_eq_getElem hlt
    have hpos : 0 < xs.length := by omega
    have cC := fun w1 (h : Gr w w1) => Lib.hid (lf_clone (some ⟨a, off, none⟩) xs.length cap xs rfl h1 h2 hl w1 (HS.out.gr h))
    obtain ⟨x, hxx⟩ : ∃ x, x = xs[i] := ⟨_, rfl⟩
    rw [← hxx] at hget
    have e5 : (xs[i]?).getD (⟨#[]⟩, ⟨#[]⟩, 0, 0) = x := by rw [hget]; rfl
    rw [e5]
    clear e5 hxx
    obtain ⟨x0, x1, x2, x3⟩ := x
    go_enter Try.func26, Try.ntmps26
    go_wp2
    generalize (((w.alloc (.cells #[.bool true, .slice (some ⟨a, off, none⟩) xs.length cap, .slice none 0 0] 27)).alloc (.cells #[.bool false, .slice none 0 0, .slice none 0 0] 27)).alloc (.cells #[.string { data := #[] }, .string { data := #[] }, .int .u32 0, .int .u32 0] 59)) = U at *
    generalize hgw : w.heap.size = g at *
    have HGW := Lib.hid hgw
    clear hgw
    have HQ : Hid (U.cell? ⟨g, 1, none⟩ = some (.slice (some ⟨a, off, none⟩) xs.length cap)) := row_cell HU.out.2.1 1 _ rfl
    go_region_held3 (fun w' => w'.cell? ⟨g, 1, none⟩ = some (.slice (some ⟨a, off, none⟩) xs.length cap)) (first | exact HQ.out | assumption)
      (first
        | (go_at_call 37; refine (sl_leaves _).mono ?_; rintro r v1 ⟨rfl, hg⟩; have HG1 := Lib.hid ((Gr.refl U).drew.trans hg); have HQ : Hid (v1.cell? ⟨g, 1, none⟩ = some (.slice (some ⟨a, off, none⟩) xs.length cap)) := HG1.out.cells HQ.out; clear hg)
        | (go_at_call 60; refine (cF _ (HU.out.1.trans HG1.out)).out.mono ?_; clear cF; rintro r v2 ⟨rfl, hg⟩; have HG2 := Lib.hid (HG1.out.trans hg); have HQ : Hid (v2.cell? ⟨g, 1, none⟩ = some (.slice (some ⟨a, off, none⟩) xs.length cap)) := hg.cells HQ.out; clear hg))
    have HV : Hid (Gr w v2 ∧ v2.heap[g]? = some (.cells #[.bool true, .slice (some ⟨a, off, none⟩) xs.length cap, .slice none 0 0] 27 (0, 0)) ∧ v2.heap[g + 1]? = some (.cells #[.bool false, .slice none 0 0, .slice none 0 0] 27 (0, 0)) ∧ v2.heap[g + 1 + 1]? = some (.cells #[.string { data := #[] }, .string { data := #[] }, .int .u32 0, .int .u32 0] 59 (0, 0)) ∧ SliceAt v2 (some ⟨a, off, none⟩) 4 ceCell xs) :=
      ⟨HU.out.1.trans HG2.out, (HG2.out.block (lt_of_row HU.out.2.1)).trans HU.out.2.1, (HG2.out.block (lt_of_row HU.out.2.2.1)).trans HU.out.2.2.1, (HG2.out.block (lt_of_row HU.out.2.2.2)).trans HU.out.2.2.2, HS.out.gr (HU.out.1.trans HG2.out)⟩
    clear HU HG1 HG2 HQ
    have n0 := row_cell HV.out.2.1 0 _ rfl
    have n1 := row_cell HV.out.2.1 1 _ rfl
    have n2 := row_cell HV.out.2.1 2 _ rfl
    have y0 := row_cell HV.out.2.2.1 0 _ rfl
    have fy0 := frozen_of_row _ _ 0 _ _ HV.out.2.2.1
    have y1 := row_cell HV.out.2.2.1 1 _ rfl
    have fy1 := frozen_of_row _ _ 1 _ _ HV.out.2.2.1
    have y2 := row_cell HV.out.2.2.1 2 _ rfl
    have fy2 := frozen_of_row _ _ 2 _ _ HV.out.2.2.1
    have z0 := row_cell HV.out.2.2.2.1 0 _ rfl
    have fz0 := frozen_of_row _ _ 0 _ _ HV.out.2.2.2.1
    have z1 := row_cell HV.out.2.2.2.1 1 _ rfl
    have fz1 := frozen_of_row _ _ 1 _ _ HV.out.2.2.2.1
    have z2 := row_cell HV.out.2.2.2.1 2 _ rfl
    have fz2 := frozen_of_row _ _ 2 _ _ HV.out.2.2.2.1
    have z3 := row_cell HV.out.2.2.2.1 3 _ rfl
    have fz3 := frozen_of_row _ _ 3 _ _ HV.out.2.2.2.1
    have k0 := HV.out.1.cells (hcell i _ hget 0 _ rfl)
    have k1 := HV.out.1.cells (hcell i _ hget 1 _ rfl)
    have k2 := HV.out.1.cells (hcell i _ hget 2 _ rfl)
    have k3 := HV.out.1.cells (hcell i _ hget 3 _ rfl)
    simp only [Nat.add_zero] at k0
    have hw1 : IntKind.i64.wrap ((i : Int) + 1) = (i : Int) + 1 := by rw [IntKind.wrap_i64]; omega
    have hcb := heap_alloc_last v2 (.cells #[.string x0, .string x1, .int .u32 (x2 : Nat), .int .u32 (x3 : Nat)] 59)
    have hA1 : Gr v2 (v2.alloc (.cells #[.string x0, .string x1, .int .u32 (x2 : Nat), .int .u32 (x3 : Nat)] 59)) := (Gr.refl v2).alloc _
    have HW : Hid (Gr w (v2.alloc (.cells #[.string x0, .string x1, .int .u32 (x2 : Nat), .int .u32 (x3 : Nat)] 59)) ∧ (v2.alloc (.cells #[.string x0, .string x1, .int .u32 (x2 : Nat), .int .u32 (x3 : Nat)] 59)).heap[g]? = some (.cells #[.bool true, .slice (some ⟨a, off, none⟩) xs.length cap, .slice none 0 0] 27 (0, 0)) ∧ (v2.alloc (.cells #[.string x0, .string x1, .int .u32 (x2 : Nat), .int .u32 (x3 : Nat)] 59)).heap[g + 1]? = some (.cells #[.bool false, .slice none 0 0, .slice none 0 0] 27 (0, 0)) ∧ (v2.alloc (.cells #[.string x0, .string x1, .int .u32 (x2 : Nat), .int .u32 (x3 : Nat)] 59)).heap[g + 1 + 1]? = some (.cells #[.string { data := #[] }, .string { data := #[] }, .int .u32 0, .int .u32 0] 59 (0, 0)) ∧ (v2.alloc (.cells #[.string x0, .string x1, .int .u32 (x2 : Nat), .int .u32 (x3 : Nat)] 59)).heap[v2.heap.size]? = some (.cells #[.string x0, .string x1, .int .u32 (x2 : Nat), .int .u32 (x3 : Nat)] 59 (0, 0)) ∧ g + 1 + 1 < v2.heap.size ∧ (v2.alloc (.cells #[.string x0, .string x1, .int .u32 (x2 : Nat), .int .u32 (x3 : Nat)] 59)).heap.size = v2.heap.size + 1) :=
      ⟨HV.out.1.trans hA1, (hA1.block (lt_of_row HV.out.2.1)).trans HV.out.2.1, (hA1.block (lt_of_row HV.out.2.2.1)).trans HV.out.2.2.1, (hA1.block (lt_of_row HV.out.2.2.2.1)).trans HV.out.2.2.2.1, hcb, lt_of_row HV.out.2.2.2.1, by simp only [alloc_size]⟩
    have m1 := hA1.cells n1
    clear hA1 hcb
    have cD := fun q cap2 b w1 h => Lib.hid (lf_delete q cap2 xs i (i + 1) hlt rfl b w1 h)
    rw [show (((i + 1 : Nat)) : Int) = (i : Int) + 1 by omega] at cD
    simp only [← hys] at cD
    clear hys
    go_wp2_with (first
      | (go_at_call 38; refine (cC _ HW.out.1).out.mono ?_; clear cC; rintro r v3 ⟨A2, cap2, rfl, ho, hg⟩; rw [HW.out.2.2.2.2.2.2] at ho; obtain ⟨q, rfl⟩ := ho.blk hpos; have HX := Lib.hid (And.intro hg (And.intro ho (ho.lt (g := q) rfl).2)); clear hg ho)
      | (go_at_call 61; refine (cD _ _ _ _ HX.out.2.1).out.mono ?_; clear cD; rintro r v4 ⟨rfl, ho, hc⟩; have hqg : v2.heap.size + 1 ≤ q := HX.out.2.2; have hgl := HW.out.2.2.2.2.2.1; have hrow := (hc.block g (Nat.lt_of_lt_of_le (lt_of_row HW.out.2.1) HX.out.1.size) (by omega)).trans ((HX.out.1.block (lt_of_row HW.out.2.1)).trans HW.out.2.1); have d1 := row_cell hrow 1 _ rfl; have fd1 := frozen_of_row _ _ 1 _ _ hrow; have HY := Lib.hid (And.intro ho (And.intro hc hrow)); clear ho hc hrow))
    have HZ : Hid (Gr w (v4.setCell ⟨g, 1, none⟩ (.slice (some ⟨q, 0, none⟩) (ys).length cap2)) ∧ (v4.setCell ⟨g, 1, none⟩ (.slice (some ⟨q, 0, none⟩) (ys).length cap2)).heap[g]? = some (.cells #[.bool true, .slice (some ⟨q, 0, none⟩) (ys).length cap2, .slice none 0 0] 27 (0, 0)) ∧ (v4.setCell ⟨g, 1, none⟩ (.slice (some ⟨q, 0, none⟩) (ys).length cap2)).heap[g + 1]? = some (.cells #[.bool false, .slice none 0 0, .slice none 0 0] 27 (0, 0)) ∧ (v4.setCell ⟨g, 1, none⟩ (.slice (some ⟨q, 0, none⟩) (ys).length cap2)).heap[g + 1 + 1]? = some (.cells #[.string { data := #[] }, .string { data := #[] }, .int .u32 0, .int .u32 0] 59 (0, 0)) ∧ (v4.setCell ⟨g, 1, none⟩ (.slice (some ⟨q, 0, none⟩) (ys).length cap2)).heap[v2.heap.size]? = some (.cells #[.string x0, .string x1, .int .u32 (x2 : Nat), .int .u32 (x3 : Nat)] 59 (0, 0)) ∧ Own (v4.setCell ⟨g, 1, none⟩ (.slice (some ⟨q, 0, none⟩) (ys).length cap2)) (v2.heap.size + 1) 59 4 ceCell (some ⟨q, 0, none⟩) cap2 (ys) ∧ g + 1 + 1 < q) := by
      have hgw : w.heap.size ≤ g := by rw [HGW.out]; exact Nat.le_refl _
      have hqg : v2.heap.size + 1 ≤ q := HX.out.2.2
      have hgl := HW.out.2.2.2.2.2.1
      exact ⟨((Ch.refl g v4).setCell 1 _).gr (HY.out.2.1.gr (HW.out.1.trans HX.out.1) (by have := HV.out.1.size; omega)) hgw, heap_setCell_same _ _ 1 _ _ _ HY.out.2.2, ((heap_setCell_other _ _ _ _ (by show (g + 1) ≠ g; omega)).trans ((HY.out.2.1.block (g + 1) (Nat.lt_of_lt_of_le (lt_of_row HW.out.2.2.1) HX.out.1.size) (by omega)).trans ((HX.out.1.block (lt_of_row HW.out.2.2.1)).trans HW.out.2.2.1))), ((heap_setCell_other _ _ _ _ (by show (g + 1 + 1) ≠ g; omega)).trans ((HY.out.2.1.block (g + 1 + 1) (Nat.lt_of_lt_of_le (lt_of_row HW.out.2.2.2.1) HX.out.1.size) (by omega)).trans ((HX.out.1.block (lt_of_row HW.out.2.2.2.1)).trans HW.out.2.2.2.1))), ((heap_setCell_other _ _ _ _ (by show v2.heap.size ≠ g; omega)).trans ((HY.out.2.1.block v2.heap.size (Nat.lt_of_lt_of_le (lt_of_row HW.out.2.2.2.2.1) HX.out.1.size) (by omega)).trans ((HX.out.1.block (lt_of_row HW.out.2.2.2.2.1)).trans HW.out.2.2.2.2.1))), HY.out.1.ch ((Ch.refl g v4).setCell 1 _) (fun he => by have h9 : q = g := Option.some.inj he; omega), by omega⟩
    have HCB := Lib.hid HW.out.2.2.2.2.2.1
    clear HV HW HX HY d1 fd1 m1 n0 n1 n2 k0 k1 k2 k3 y0 fy0 y1 fy1 y2 fy2 z0 fz0 z1 fz1 z2 fz2 z3 fz3
    generalize (v4.setCell ⟨g, 1, none⟩ (.slice (some ⟨q, 0, none⟩) (ys).length cap2)) = v5 at *
    generalize v2.heap.size = cb at *
    have n0 := row_cell HZ.out.2.1 0 _ rfl
    have n1 := row_cell HZ.out.2.1 1 _ rfl
    have n2 := row_cell HZ.out.2.1 2 _ rfl
    have y0 := row_cell HZ.out.2.2.1 0 _ rfl
    have fy0 := frozen_of_row _ _ 0 _ _ HZ.out.2.2.1
    have y1 := row_cell HZ.out.2.2.1 1 _ rfl
    have fy1 := frozen_of_row _ _ 1 _ _ HZ.out.2.2.1
    have y2 := row_cell HZ.out.2.2.1 2 _ rfl
    have fy2 := frozen_of_row _ _ 2 _ _ HZ.out.2.2.1
    have z0 := row_cell HZ.out.2.2.2.1 0 _ rfl
    have fz0 := frozen_of_row _ _ 0 _ _ HZ.out.2.2.2.1
    have z1 := row_cell HZ.out.2.2.2.1 1 _ rfl
    have fz1 := frozen_of_row _ _ 1 _ _ HZ.out.2.2.2.1
    have z2 := row_cell HZ.out.2.2.2.1 2 _ rfl
    have fz2 := frozen_of_row _ _ 2 _ _ HZ.out.2.2.2.1
    have z3 := row_cell HZ.out.2.2.2.1 3 _ rfl
    have fz3 := frozen_of_row _ _ 3 _ _ HZ.out.2.2.2.1
    have w0 := row_cell HZ.out.2.2.2.2.1 0 _ rfl
    have w1 := row_cell HZ.out.2.2.2.2.1 1 _ rfl
    have w2 := row_cell HZ.out.2.2.2.2.1 2 _ rfl
    have w3 := row_cell HZ.out.2.2.2.2.1 3 _ rfl
    have hcg : g + 1 + 1 < cb := HCB.out
    have hne1 : ¬ cb = g + 1 := by omega
    have hne2 : ¬ cb = g + 1 + 1 := by omega
    have hne3 : ¬ g + 1 = cb := by omega
    have hne4 : ¬ g + 1 + 1 = cb := by omega
    clear hcg
    go_wp2
    go_region
    go_wp2
    refine bodyPost_ret (results_c_c_t rfl _ _ (g + 1) (g + 1 + 1) _ _ #[.bool true, .slice (some ⟨q, 0, none⟩) ys.length cap2, .slice none 0 0] #[.string x0, .string x1, .int .u32 (x2 : Nat), .int .u32 (x3 : Nat)] (0, 0) (0, 0) (.struct _) (.struct _) rfl ((heap_drew _ _).trans ((set4_other _ (g + 1 + 1) (g + 1) (.string x0) (.string x1) (.int .u32 (x2 : Nat)) (.int .u32 (x3 : Nat)) (by omega)).trans (set3_same (.bool true) (.slice (some ⟨q, 0, none⟩) ys.length cap2) (.slice none 0 0) HZ.out.2.2.1))) Try.underlying27 rfl (by kernel_rfl) rfl ((heap_drew _ _).trans (set4_same (.string x0) (.string x1) (.int .u32 (x2 : Nat)) (.int .u32 (x3 : Nat)) ((set3_other _ (g + 1) (g + 1 + 1) (.bool true) (.slice (some ⟨q, 0, none⟩) ys.length cap2) (.slice none 0 0) (by omega)).trans HZ.out.2.2.2.1))) Try.underlying59 rfl (by kernel_rfl)) rfl ⟨some ⟨q, 0, none⟩, cap2, rfl, ⟨some ⟨q, 0, none⟩, cap2, rfl, (HZ.out.2.2.2.2.2.1.of_block (fun g9 he => by cases he; exact (heap_drew _ _).trans ((set4_other _ (g + 1 + 1) q _ _ _ _ (by have := HZ.out.2.2.2.2.2.2; omega)).trans (set3_other _ (g + 1) q _ _ _ (by have := HZ.out.2.2.2.2.2.2; omega))))).slice ceCell_len, HZ.out.2.2.2.2.2.1.cap_le.1, HZ.out.2.2.2.2.2.1.cap_le.2⟩, (set4_gr (g + 1 + 1) (.string x0) (.string x1) (.int .u32 (x2 : Nat)) (.int .u32 (x3 : Nat)) (set3_gr (g + 1) (.bool true) (.slice (some ⟨q, 0, none⟩) ys.length cap2) (.slice none 0 0) HZ.out.1 (by rw [HGW.out]; omega)) (by rw [HGW.out]; omega)).drew⟩
  · have hok2 : fdIs (fun x : Ce => x.1) xs key = false := by simpa using hok
    rw [hok2] at cF
    rw [hok2, if_neg (by decide), if_neg (by decide)]
    clear hisl hok hok2 hs hr
    generalize fdAt (fun x : Ce => x.1) xs key = i at *
    go_enter Try.func26, Try.ntmps26
    go_wp2
    generalize (((w.alloc (.cells #[.bool true, .slice A xs.length cap, .slice none 0 0] 27)).alloc (.cells #[.bool false, .slice none 0 0, .slice none 0 0] 27)).alloc (.cells #[.string { data := #[] }, .string { data := #[] }, .int .u32 0, .int .u32 0] 59)) = U at *
    generalize hgw : w.heap.size = g at *
    have HGW := Lib.hid hgw
    clear hgw
    have HQ : Hid (U.cell? ⟨g, 1, none⟩ = some (.slice A xs.length cap)) := row_cell HU.out.2.1 1 _ rfl
    go_region_held3 (fun w' => w'.cell? ⟨g, 1, none⟩ = some (.slice A xs.length cap)) (first | exact HQ.out | assumption)
      (first
        | (go_at_call 37; refine (sl_leaves _).mono ?_; rintro r v1 ⟨rfl, hg⟩; have HG1 := Lib.hid ((Gr.refl U).drew.trans hg); have HQ : Hid (v1.cell? ⟨g, 1, none⟩ = some (.slice A xs.length cap)) := HG1.out.cells HQ.out; clear hg)
        | (go_at_call 60; refine (cF _ (HU.out.1.trans HG1.out)).out.mono ?_; clear cF; rintro r v2 ⟨rfl, hg⟩; have HG2 := Lib.hid (HG1.out.trans hg); have HQ : Hid (v2.cell? ⟨g, 1, none⟩ = some (.slice A xs.length cap)) := hg.cells HQ.out; clear hg))
    have HV : Hid (Gr w v2 ∧ v2.heap[g]? = some (.cells #[.bool true, .slice A xs.length cap, .slice none 0 0] 27 (0, 0)) ∧ v2.heap[g + 1]? = some (.cells #[.bool false, .slice none 0 0, .slice none 0 0] 27 (0, 0)) ∧ v2.heap[g + 1 + 1]? = some (.cells #[.string { data := #[] }, .string { data := #[] }, .int .u32 0, .int .u32 0] 59 (0, 0)) ∧ SliceAt v2 A 4 ceCell xs) :=
      ⟨HU.out.1.trans HG2.out, (HG2.out.block (lt_of_row HU.out.2.1)).trans HU.out.2.1, (HG2.out.block (lt_of_row HU.out.2.2.1)).trans HU.out.2.2.1, (HG2.out.block (lt_of_row HU.out.2.2.2)).trans HU.out.2.2.2, HS.out.gr (HU.out.1.trans HG2.out)⟩
    clear HU HG1 HG2 HQ
    have n0 := row_cell HV.out.2.1 0 _ rfl
    have n1 := row_cell HV.out.2.1 1 _ rfl
    have n2 := row_cell HV.out.2.1 2 _ rfl
    have y0 := row_cell HV.out.2.2.1 0 _ rfl
    have fy0 := frozen_of_row _ _ 0 _ _ HV.out.2.2.1
    have y1 := row_cell HV.out.2.2.1 1 _ rfl
    have fy1 := frozen_of_row _ _ 1 _ _ HV.out.2.2.1
    have y2 := row_cell HV.out.2.2.1 2 _ rfl
    have fy2 := frozen_of_row _ _ 2 _ _ HV.out.2.2.1
    have z0 := row_cell HV.out.2.2.2.1 0 _ rfl
    have fz0 := frozen_of_row _ _ 0 _ _ HV.out.2.2.2.1
    have z1 := row_cell HV.out.2.2.2.1 1 _ rfl
    have fz1 := frozen_of_row _ _ 1 _ _ HV.out.2.2.2.1
    have z2 := row_cell HV.out.2.2.2.1 2 _ rfl
    have fz2 := frozen_of_row _ _ 2 _ _ HV.out.2.2.2.1
    have z3 := row_cell HV.out.2.2.2.1 3 _ rfl
    have fz3 := frozen_of_row _ _ 3 _ _ HV.out.2.2.2.1
    go_wp2
    refine bodyPost_ret (results_c_c_t rfl _ _ (g + 1) (g + 1 + 1) _ _ #[.bool true, .slice A xs.length cap, .slice none 0 0] #[.string { data := #[] }, .string { data := #[] }, .int .u32 0, .int .u32 0] (0, 0) (0, 0) (.struct _) (.struct _) rfl ((set4_other _ (g + 1 + 1) (g + 1) (.string { data := #[] }) (.string { data := #[] }) (.int .u32 0) (.int .u32 0) (by omega)).trans (set3_same (.bool true) (.slice A xs.length cap) (.slice none 0 0) HV.out.2.2.1)) Try.underlying27 rfl (by kernel_rfl) rfl (set4_same (.string { data := #[] }) (.string { data := #[] }) (.int .u32 0) (.int .u32 0) ((set3_other _ (g + 1) (g + 1 + 1) (.bool true) (.slice A xs.length cap) (.slice none 0 0) (by omega)).trans HV.out.2.2.2.1)) Try.underlying59 rfl (by kernel_rfl)) rfl ⟨A, cap, rfl, ⟨A, cap, rfl, HS.out.gr (set4_gr (g + 1 + 1) (.string { data := #[] }) (.string { data := #[] }) (.int .u32 0) (.int .u32 0) (set3_gr (g + 1) (.bool true) (.slice A xs.length cap) (.slice none 0 0) HV.out.1 (by rw [HGW.out]; omega)) (by rw [HGW.out]; omega)), h1, h2⟩, (set4_gr (g + 1 + 1) (.string { data := #[] }) (.string { data := #[] }) (.int .u32 0) (.int .u32 0) (set3_gr (g + 1) (.bool true) (.slice A xs.length cap) (.slice none 0 0) HV.out.1 (by rw [HGW.out]; omega)) (by rw [HGW.out]; omega))⟩
end Go.Proofs.Ytmpmfgkabjedpaa
namespace Go.Proofs.Ytmpmfgkabjedpaa
open Go.RowKit
set_option linter.unusedVariables false
set_option linter.unusedSimpArgs false
def ceNorm (x : Ce) : Ce := (x.1, x.2.1, x.2.2.1, if x.2.2.1 = 0 then 0 else x.2.2.2)
theorem rErr_0 {α : Type} {bad : α → Bool} {key : α → ByteArray} {xs : List α} (h : rErr bad key xs = 0) : ∀ x ∈ xs, bad x = false := by
  intro x hx
  cases hb : bad x with
  | false => rfl
  | true => rw [rErr_bad hx hb] at h; cases h
theorem lfB_norm (x : Ce) : lfB (ceNorm x) = lfB x := by
  obtain ⟨k, v, c, l⟩ := x
  unfold ceNorm lfB ceBytes
  simp only
  by_cases hc : c = 0
  · rw [if_neg (by simpa using hc), if_neg (by simpa using hc)]
  · rw [if_pos hc, if_pos hc, if_neg hc]
theorem size_0 {v : ByteArray} (h : v.size = 0) : v = .empty := by
  apply ByteArray.ext; apply Array.eq_empty_of_size_eq_zero; exact h
theorem ceNorm_can {x : Ce} (h : ceBad x = false) (hu : ceU x) : ceCan (ceNorm x) := by
  obtain ⟨k, v, c, l⟩ := x
  unfold ceBad ceFits at h
  simp only [Bool.or_eq_false_iff, decide_eq_false_iff_not, Nat.not_lt, Bool.not_eq_false'] at h
  obtain ⟨h1, h2⟩ := h
  refine ⟨h1, ?_⟩
  simp only [ceNorm]
  by_cases hc : c = 0
  · rw [if_pos hc, if_pos hc]
    rw [if_neg (by simpa using hc)] at h2
    have : v.size ≤ 400 := by simpa using h2
    exact ⟨rfl, by omega⟩
  · rw [if_neg hc, if_neg hc]
    rw [if_pos hc] at h2
    exact ⟨size_0 (by simpa using h2), hu.1, hu.2⟩
theorem slb_fwd (xs : List Ce) (he : lfErr xs = 0) (hu : ∀ x ∈ xs, ceU x) : lfAns (slAt xs.length (xs.map lfB) 0 ++ slCells (xs.map lfB)) xs.length = (xs.map ceNorm, 0) := by
  have hmap : (xs.map ceNorm).map lfB = xs.map lfB := by
    rw [List.map_map]
    exact List.map_congr_left fun x _ => lfB_norm x
  have hL : Lay lfB ceCan (slAt xs.length (xs.map lfB) 0 ++ slCells (xs.map lfB)) xs.length (xs.map ceNorm) := by
    refine ⟨by rw [List.length_map], fun y hy => ?_, by rw [hmap]⟩
    obtain ⟨x, hx, rfl⟩ := List.mem_map.1 hy
    exact ceNorm_can (rErr_0 he x hx) (hu x hx)
  have h0 : rErr ceBad (fun x : Ce => x.1) (xs.map ceNorm) = 0 := by
    rw [rErr_congr ceBad (fun x : Ce => x.1) ceBad (fun x : Ce => x.1) ceNorm (fun _ => rfl) (fun _ => rfl)]
    exact he
  unfold lfAns
  rw [rdAns_some rdg_ce hL, if_pos h0]
theorem slb_len (bs : List ByteArray) : (slAt bs.length bs 0 ++ slCells bs).length = slLen bs := by
  rw [List.length_append, slAt_length, ← slCells_len]; omega
theorem lfB_le {x : Ce} (h : ceCan x) : x.1.size ≤ (lfB x).size ∧ x.2.1.size ≤ (lfB x).size := by
  obtain ⟨k, v, c, l⟩ := x
  obtain ⟨h1, h2⟩ := h
  simp only at h1 h2 ⊢
  unfold lfB ceBytes
  simp only
  by_cases hc : c = 0
  · rw [if_pos hc] at h2
    rw [if_neg (by simpa using hc), clipB_all _ _ h2.2]
    simp only [ByteArray.size_append, keyBytes_size, B_be_size]
    omega
  · rw [if_neg hc] at h2
    rw [if_pos hc, h2.1]
    simp only [ByteArray.size_append, keyBytes_size, B_be_size]
    refine ⟨by omega, by show (0 : Nat) ≤ _; omega⟩
theorem mem_cells {bs : List ByteArray} {b : ByteArray} (h : b ∈ bs) : b.size ≤ (slCells bs).length := by
  obtain ⟨l, r, rfl⟩ := List.append_of_mem h
  rw [slCells_append, slCells_cons, List.length_append, List.length_append]
  have : b.data.toList.length = b.size := by simp
  omega
theorem lay_ok {D : List UInt8} {n : Nat} {l : List Ce} (hD : D.length ≤ 8000) (h : Lay lfB ceCan D n l) : l.length ≤ 4000 ∧ (∀ x ∈ l, ceOk x) := by
  have hlen := h.len
  refine ⟨by rw [h.1]; omega, fun x hx => ?_⟩
  have h1 := lfB_le (h.2.1 x hx)
  have h2 := mem_cells (List.mem_map_of_mem (f := lfB) hx)
  have h3 : (slCells (l.map lfB)).length ≤ D.length := by rw [h.2.2, List.length_append]; omega
  have h4 := ceCan_lt (h.2.1 x hx)
  exact ⟨by omega, by omega, h4.1, h4.2⟩
/-- what a body's cells are laid as -/
theorem slb_rev {D : List UInt8} {n : Nat} {l : List Ce} (h : Lay lfB ceCan D n l) (he : rErr ceBad (fun x : Ce => x.1) l = 0) :
    (slBody (lfErr l) (l.map lfB) = (B D, 0) ∧ D.length ≤ 4072) ∨ (slBody (lfErr l) (l.map lfB) = (.empty, 14) ∧ 4072 < D.length) := by
  have h0 : lfErr l = 0 := he
  have hl : D.length = slLen (l.map lfB) := by
    have h2 := slb_len (l.map lfB)
    rw [List.length_map, h.1] at h2
    have h3 := congrArg List.length h.2.2
    rw [h2] at h3
    exact h3
  unfold slBody
  rw [h0, if_neg (by simp)]
  by_cases hf : 4072 < slLen (l.map lfB)
  · rw [if_pos hf]; exact .inr ⟨rfl, by omega⟩
  · rw [if_neg hf]
    refine .inl ⟨?_, by omega⟩
    rw [List.length_map, h.1, ← h.2.2]; rfl
end Go.Proofs.Ytmpmfgkabjedpaa
