/- Layer 10: slices.Insert of one thing at slots.Kid (printed by ndins_gen.py). -/
import Derived.Test.YtmpmfgkabjedpaaMgDo33
import Derived.Lib.Overlaps
import Derived.Lib.AppendZerosOnto
import Derived.Lib.AppendZeros
import Derived.Lib.JoinLaws
import Derived.Laws.NewBlocks
import Derived.Shelf.Spec.SlicesInsert
namespace Go.Proofs.Ytmpmfgkabjedpaa
open Go.RowKit
set_option linter.unusedVariables false
set_option linter.unusedSimpArgs false
set_option maxRecDepth 100000
set_option maxHeartbeats 4000000
/-- the world of a call that owns its slice: from the outer start on nothing old turned -/
theorem ki_insert (A : Option Addr) (cap : Nat) (xs : List Ki) (i : Nat) (hi : i ≤ xs.length) (hl : xs.length ≤ 4000) (x : Ki) (vb base : Nat) (w0 w : World) (h0 : Gr w0 w) (hbase : w0.heap.size ≤ base) (hbw : base ≤ w.heap.size) (h : Own w base 61 2 kiCell A cap xs) (hv : w.heap[vb]? = some (.cells (kiCell x).toArray 61 (0, 0))) (hne : ownOf A ≠ some vb) (hvb : w0.heap.size ≤ vb) :
    Calls Try.prog 106 #[.slice A xs.length cap, .int .i64 (i : Nat), .slice (some ⟨vb, 0, none⟩) 1 1] w fun r w' => ∃ A' cap', r = .returned (.slice A' (xs.length + 1) cap') ∧ Own w' base 61 2 kiCell A' cap' (xs.take i ++ x :: xs.drop i) ∧ Gr w0 w' := by
  obtain ⟨ii, hii, hz0, hz1, hz2⟩ := info_parts sl_info_ki
  have hcap := h.cap_le
  have HBW := Lib.hid hbw
  have hxl : (kiCell x).length = 2 := kiCell_len x
  have hvc : ∀ j u, (kiCell x)[j]? = some u → w.cell? ⟨vb, j, none⟩ = some u := fun j u hu => by rw [cell_of_row _ _ _ _ _ _ hv]; simpa using hu
  have hHv : Hid (∀ j u, (kiCell x)[j]? = some u → w.cell? ((⟨vb, 0, none⟩ : Addr).add j) = some u) := fun j u hu => by
    have hadd : (⟨vb, 0, none⟩ : Addr).add j = ⟨vb, j, none⟩ := by unfold Addr.add; split <;> simp_all
    rw [hadd]; exact hvc j u hu
  by_cases hin : i = xs.length
  · subst hin
    have HO := Lib.hid h
    have HG := Lib.hid h0
    have HZ : Hid (∀ c' g' v', v'.ownsRow base 61 2 (.slice (some ⟨g', 0, none⟩) (xs.length + 1) c') (xs.length + 1) (xs.flatMap kiCell ++ kiCell x) → Own v' base 61 2 kiCell (some ⟨g', 0, none⟩) c' (xs.take xs.length ++ x :: xs.drop xs.length)) := fun c' g' v' k => by
      rw [List.take_length, List.drop_length]
      exact Own.push x k
    clear hv hvc h h0
    unfold maxLen at hcap
    cases A with
    | none =>
      obtain ⟨hx0, hc0⟩ : xs = [] ∧ cap = 0 := by
        rcases HO.out.2 with ⟨hvv, h1⟩ | ⟨q', c, cur, hvv, _⟩
        · simp only [Value.slice.injEq] at hvv
          exact ⟨List.eq_nil_of_length_eq_zero h1, hvv.2.2⟩
        · simp at hvv
      subst hx0 hc0
      simp only [List.length_nil] at *
      go_enter Try.func106, Try.ntmps106
      go_wp2_with (at_builtin; refine wpList_append_lies _ rfl _ _ 25 rfl base 61 ii _ 2 24 Try.underlying25 hii hz0 hz1 hz2 rfl (by omega) (.slice none 0 0) 0 (([] : List Ki).flatMap kiCell) rfl HO.out ⟨vb, 0, none⟩ 1 1 (kiCell x) rfl (kiCell_len x) hHv.out (kiCell_one x) (by omega) (by unfold maxLen; omega) (by omega) HBW.out _ rfl ?_; intro gg cc v5 hown hgrow hat hlt5)
      go_ret
      exact ⟨_, _, rfl, HZ.out _ _ _ hown, HO.out.grown hgrow HG.out hbase⟩
    | some ad =>
      by_cases hcq : cap = xs.length
      · subst hcq
        go_enter Try.func106, Try.ntmps106
        go_wp2_with (at_builtin; refine wpList_append_lies _ rfl _ _ 25 rfl base 61 ii _ 2 24 Try.underlying25 hii hz0 hz1 hz2 rfl (by omega) (.slice (some ad) xs.length xs.length) xs.length (xs.flatMap kiCell) rfl HO.out ⟨vb, 0, none⟩ 1 1 (kiCell x) rfl (kiCell_len x) hHv.out (kiCell_one x) (by omega) (by unfold maxLen; omega) (by omega) HBW.out _ rfl ?_; intro gg cc v5 hown hgrow hat hlt5)
        go_ret
        exact ⟨_, _, rfl, HZ.out _ _ _ hown, HO.out.grown hgrow HG.out hbase⟩
      · go_enter Try.func106, Try.ntmps106
        go_wp2_with (at_builtin; refine wpList_append_lies _ rfl _ _ 25 rfl base 61 ii _ 2 24 Try.underlying25 hii hz0 hz1 hz2 rfl (by omega) (.slice (some ad) xs.length cap) xs.length (xs.flatMap kiCell) rfl HO.out ⟨vb, 0, none⟩ 1 1 (kiCell x) rfl (kiCell_len x) hHv.out (kiCell_one x) (by omega) (by unfold maxLen; omega) (by omega) HBW.out _ rfl ?_; intro gg cc v5 hown hgrow hat hlt5)
        go_ret
        exact ⟨_, _, rfl, HZ.out _ _ _ hown, HO.out.grown hgrow HG.out hbase⟩
  · have hlt : i < xs.length := by omega
    cases A with
    | none =>
      rcases h.2 with ⟨_, h1⟩ | ⟨q', c, cur, hvv, _⟩
      · omega
      · simp at hvv
    | some ad =>
      obtain ⟨g, rfl⟩ : ∃ g, ad = ⟨g, 0, none⟩ := by
        rcases h.2 with ⟨hvv, _⟩ | ⟨q', c, cur, hvv, _⟩
        · simp at hvv
        · simp only [Value.slice.injEq] at hvv
          exact ⟨q', Option.some.inj hvv.1⟩
      have hvg : vb ≠ g := fun he => hne (by rw [he]; rfl)
      obtain ⟨cur, hh, hb, hn, hc, hz, hx⟩ := h.rowOf
      have hfz : ∀ t, w.frozen? ⟨g, t, none⟩ = false := fun t => frozen_of_row _ _ t _ _ hh
      have hcs : ∀ j u, (xs.flatMap kiCell)[j]? = some u → w.cell? ⟨g, j, none⟩ = some u := fun j u hu => by
        rw [← hx, List.getElem?_take] at hu
        split at hu
        · rw [cell_of_row _ _ _ _ _ _ hh]; simpa using hu
        · cases hu
      have hdr : ∀ j u, ((xs.drop i).flatMap kiCell)[j]? = some u → w.cell? ⟨g, i * 2 + j, none⟩ = some u := fun j u hu => by
        rw [← drop_flat kiCell_len, List.getElem?_drop] at hu
        exact hcs _ u hu
      have hDl : ((xs.drop i).flatMap kiCell).length = (xs.length - i) * 2 := by rw [cells_len 2 kiCell_len, List.length_drop]
      have hD1 := cells_one kiCell_one (xs.drop i)
      have hX1 := kiCell_one x
      have hsz : (Try.prog.info? 61).map (·.size) = some 2 := by rw [hii]; simp [hz1]
      have hw1 : IntKind.i64.wrap ((i : Int) + 1) = (i : Int) + 1 := by rw [IntKind.wrap_i64]; omega
      have hw2 : IntKind.i64.wrap ((xs.length : Int) + 1) = (xs.length : Int) + 1 := by rw [IntKind.wrap_i64]; omega
      by_cases hroom : xs.length + 1 ≤ cap
      · have hsa : w.shape? vb = some (61, 2) := by simp [World.shape?, hv, hxl]
        have hsb : w.shape? g = some (61, cap * 2) := by simp [World.shape?, hh, hz]
        have hov : ∀ lb cb, (callFunc 119 #[.slice (some ⟨vb, 0, none⟩) 1 1, .slice (some ⟨g, (i + 1) * 2, none⟩) lb cb]).run Try.prog w = .ok (.value (.bool false)) w := fun lb cb => by
          rw [run_callFunc_extern Try.func119 (by kernel_rfl) (by kernel_rfl) (by kernel_rfl) (e := Extern.SlicesOverlaps.overlaps #[25, 25] #[4]) (by kernel_rfl),
            Lib.run_overlaps_apart w 25 4 61 Try.underlying25 2 (fun w => by kernel_rfl) ⟨vb, 0, none⟩ ⟨g, (i + 1) * 2, none⟩ 1 1 lb cb hvg 61 61 2 (cap * 2) hsa hsb (by omega) (frozen_of_row _ _ _ _ _ hv) (frozen_of_row _ _ _ _ _ hv)]
          rfl
        have hsome : ∀ t, t < cap * 2 → (w.cell? ⟨g, t, none⟩).isSome = true := fun t ht => by
          rw [cell_of_row _ _ _ _ _ _ hh, Array.getElem?_eq_getElem (by omega)]; rfl
        have hcp1 : ∀ ty dc sc, (Builtin.copy_ #[25, 25] ty #[.slice (some ⟨g, (i + 1) * 2, none⟩) (xs.length - i) dc, .slice (some ⟨g, i * 2, none⟩) (xs.length + 1 - i) sc]).run Try.prog w.drew = .ok (goInt ((xs.length - i : Nat) : Int)) (w.drew.setCells g ((i + 1) * 2) ((xs.drop i).flatMap kiCell)) := fun ty dc sc =>
          run_copy_k w.drew _ _ ty 61 2 g ((i + 1) * 2) (xs.length - i) dc ⟨g, i * 2, none⟩ (xs.length + 1 - i) sc ((xs.drop i).flatMap kiCell) Try.underlying25 hsz (xs.length - i) (by simp only [Nat.min_def]; split <;> omega) hDl
            (fun j u hj => by
              have hadd : (⟨g, i * 2, none⟩ : Addr).add j = ⟨g, i * 2 + j, none⟩ := by unfold Addr.add; split <;> simp_all
              rw [hadd]; exact hdr j u hj)
            (fun j hj => hsome _ (by rw [hDl] at hj; omega)) (fun j hj => hfz _) hD1
        obtain ⟨W1, hW1⟩ : ∃ W1, W1 = w.drew.setCells g ((i + 1) * 2) ((xs.drop i).flatMap kiCell) := ⟨_, rfl⟩
        obtain ⟨c1, g1, s1, t1⟩ := setCells_row ((xs.drop i).flatMap kiCell) ((i + 1) * 2) w.drew cur hh (by rw [hDl, hz]; omega)
        rw [← hW1] at g1
        have hv1 : W1.heap[vb]? = some (.cells (kiCell x).toArray 61 (0, 0)) := by rw [hW1, setCells_other hvg]; exact hv
        have hcp2 : ∀ (W : World), (∀ a, W.cell? a = W1.cell? a) → (∀ a, W.frozen? a = W1.frozen? a) → ∀ ty dc, (Builtin.copy_ #[25, 25] ty #[.slice (some ⟨g, i * 2, none⟩) (xs.length + 1 - i) dc, .slice (some ⟨vb, 0, none⟩) 1 1]).run Try.prog W = .ok (goInt 1) (W.setCells g (i * 2) (kiCell x)) := fun W hWc hWf ty dc =>
          run_copy_k W _ _ ty 61 2 g (i * 2) (xs.length + 1 - i) dc ⟨vb, 0, none⟩ 1 1 (kiCell x) Try.underlying25 hsz 1 (by simp only [Nat.min_def]; split <;> omega) hxl
            (fun j u hj => by
              have hadd : (⟨vb, 0, none⟩ : Addr).add j = ⟨vb, j, none⟩ := by unfold Addr.add; split <;> simp_all
              rw [hadd, hWc, cell_of_row _ _ _ _ _ _ hv1]; simpa using hj)
            (fun j hj => by rw [hWc, cell_of_row _ _ _ _ _ _ g1, Array.getElem?_eq_getElem (by rw [s1, hz]; omega)]; rfl) (fun j hj => by rw [hWf]; exact frozen_of_row _ _ _ _ _ g1) hX1
        have HE : Hid (Own (W1.setCells g (i * 2) (kiCell x)) base 61 2 kiCell (some ⟨g, 0, none⟩) cap (xs.take i ++ x :: xs.drop i) ∧ Gr w0 (W1.setCells g (i * 2) (kiCell x))) := by
          rw [hW1]
          exact ⟨(h.gr (Gr.refl w).drew).insertShift kiCell_len i hi hroom x, (Ch.setCells (Ch.setCells (Ch.refl g w).drew _ _) _ _).gr h0 (Nat.le_trans hbase hb)⟩
        rw [← hW1] at hcp1
        have mixed : Try.prog.follows Departure.mixedOrders = true := by kernel_rfl
        have hz2 : ¬ ((i : Int) = (xs.length : Int)) := by omega
        have hz3 : ¬ ((cap : Int) < (xs.length : Int) + 1) := by omega
        have hb1 : (0 : Int) ≤ (i : Int) + 1 := by omega
        have htn : ((i : Int) + 1).toNat = i + 1 := by omega
        have htn2 : ((xs.length : Int) + 1).toNat = xs.length + 1 := by omega
        have hb2 : ¬ (cap = i + 1) := by omega
        have hb3 : (i : Int) ≤ (xs.length : Int) + 1 := by omega
        have hb5 : (i : Int) + 1 ≤ (xs.length : Int) + 1 := by omega
        have hb6 : (xs.length : Int) + 1 ≤ (cap : Int) := by omega
        have hb7 : (0 : Int) ≤ (xs.length : Int) + 1 := by omega
        have hb4 : ¬ (cap = i) := by omega
        have hcm : cap ≤ 9223372036854775807 := by have := hcap.2; unfold maxLen at this; omega
        have hX : Hid (W1.setCells g (i * 2) (kiCell x) = W1.setCells g (i * 2) (kiCell x)) := rfl
        clear hW1 g1 s1 t1 hv1 hx hz hh hsome hfz hcs hdr h h0 hD1 hX1 hxl hDl hsa hsb hvc hv hHv hcap hbase hvb HBW hbw hb hne hvg
        generalize xs.take i ++ x :: xs.drop i = ys at *
        generalize hnn : xs.length = n at *
        clear hnn
        go_enter Try.func106, Try.ntmps106
        go_wp2_with (simp only [hov])
        go_region_law_o (refine step_copy_runI rfl _ _ 25 25 rfl _ _ (by simp [Act.eval, Act.put]) (by simp [Act.eval, Act.put]) (hcp1 _ _ _) ?_)
        go_wp2_with (at_builtin; refine wpList_copy_runI _ rfl _ _ 25 25 rfl _ _ rfl rfl (hcp2 _ (fun _ => rfl) (fun _ => rfl) _ _) ?_)
        go_ret
        exact ⟨_, _, rfl, HE.out.1, HE.out.2⟩
      · have hz3 : (cap : Int) < (xs.length : Int) + 1 := by omega
        have hbw2 : g < w.heap.size := lt_of_row hh
        have hvw : vb < w.heap.size := lt_of_row hv
        have hkk : (xs.length : Int) + 1 - (i : Int) = ((xs.length + 1 - i : Nat) : Int) := by omega
        have hik : i + (xs.length + 1 - i) = xs.length + 1 := by omega
        have hold : (Builtin.firstCells ii.size i (.slice (some ⟨g, 0, none⟩) i cap)).run Try.prog w.drew = .ok ((xs.take i).flatMap kiCell).toArray w.drew := by
          rw [hz1]
          exact run_firstCells_some w.drew 2 i ⟨g, 0, none⟩ i cap ((xs.take i).flatMap kiCell) (by rw [cells_len 2 kiCell_len, List.length_take]; omega) (fun j u hj => by
            have hadd : (⟨g, 0, none⟩ : Addr).add j = ⟨g, j, none⟩ := by unfold Addr.add; split <;> simp_all
            rw [hadd]
            rw [← take_flat kiCell_len, List.getElem?_take] at hj
            split at hj
            · exact hcs j u hj
            · cases hj)
        obtain ⟨G, hG⟩ : ∃ G, G = grownCap w (xs.length + 1) cap 61 := ⟨_, rfl⟩
        obtain ⟨ROW, hROW⟩ : ∃ ROW : Array Value, ROW = ((xs.take i).flatMap kiCell).toArray ++ Builtin.zeroCells (Value.cells (.agg #[.string { data := #[] }, .int .u32 0])) (xs.length + 1 - i) ++ Builtin.zeroCells (Value.cells (.agg #[.string { data := #[] }, .int .u32 0])) (G - (xs.length + 1)) := ⟨_, rfl⟩
        have hrz : ∀ ty, (Builtin.append_ #[25, 3] ty #[.slice (some ⟨g, 0, none⟩) i cap, .int .i64 ((xs.length : Int) + 1 - (i : Int))]).run Try.prog w =
            .ok (.slice (some ⟨w.heap.size, 0, none⟩) (xs.length + 1) G) (w.drew.alloc (.cells ROW 61)) := fun ty => by
          have h := Lib.run_append_grow_zeros w 25 3 ty 61 ii _ .i64 .i64 Try.underlying25 Try.underlying3 hii hz0 (some ⟨g, 0, none⟩) i cap ((xs.take i).flatMap kiCell) hold (xs.length + 1 - i) (by omega) (by omega) (by omega) (by omega) (by rw [hz2]; omega) (by rw [hz2, hik]; exact growslice_fits (by omega) (by omega))
          rw [hik] at h
          rw [hkk, hROW, hG]
          exact h
        have hGn : xs.length + 1 ≤ G := by rw [hG]; exact grownCap_ge w _ _ _
        have hGm : G ≤ maxLen := by rw [hG]; exact grownCap_le_maxLen w (xs.length + 1) cap 61 (by unfold maxLen; omega)
        have hG63 : G ≤ 9223372036854775807 := by unfold maxLen at hGm; omega
        have hTl : ((xs.take i).flatMap kiCell).length = i * 2 := by rw [cells_len 2 kiCell_len, List.length_take, Nat.min_eq_left hi]
        have hRs : ROW.size = G * 2 := by
          rw [hROW]
          have z1 := zeroCells_length (Value.cells (.agg #[.string { data := #[] }, .int .u32 0])) (xs.length + 1 - i)
          have z2 := zeroCells_length (Value.cells (.agg #[.string { data := #[] }, .int .u32 0])) (G - (xs.length + 1))
          rw [Array.length_toList] at z1 z2
          have e : (Value.cells (.agg #[.string { data := #[] }, .int .u32 0])).size = 2 := rfl
          rw [e] at z1 z2
          rw [Array.size_append, Array.size_append, z1, z2, List.size_toArray, hTl]
          omega
        have hRt : ROW.toList.take (i * 2) = (xs.take i).flatMap kiCell := by
          rw [hROW, Array.toList_append, Array.toList_append, List.append_assoc, List.take_append_of_le_length (by rw [List.toList_toArray, hTl]; exact Nat.le_refl _), List.toList_toArray, ← hTl, List.take_length]
        obtain ⟨W1, hW1⟩ : ∃ W1, W1 = w.drew.alloc (.cells ROW 61) := ⟨_, rfl⟩
        have g1 : W1.heap[w.heap.size]? = some (.cells ROW 61 (0, 0)) := by rw [hW1]; exact heap_alloc_last w.drew _
        have hgN : g ≠ w.heap.size := by omega
        have hvN : vb ≠ w.heap.size := by omega
        have hG1 : Gr w W1 := by rw [hW1]; exact (Gr.refl w).drew.alloc _
        have hv1 : W1.heap[vb]? = some (.cells (kiCell x).toArray 61 (0, 0)) := (hG1.block hvw).trans hv
        have hh1 : W1.heap[g]? = some (.cells cur 61 (0, 0)) := (hG1.block hbw2).trans hh
        obtain ⟨c2, g2, s2, t2⟩ := setCells_row (kiCell x) (i * 2) W1 ROW g1 (by rw [hxl, hRs]; omega)
        have hh2 : (W1.setCells w.heap.size (i * 2) (kiCell x)).heap[g]? = some (.cells cur 61 (0, 0)) := by rw [setCells_other hgN]; exact hh1
        have hcpA : ∀ (W : World), (∀ a, W.cell? a = W1.cell? a) → (∀ a, W.frozen? a = W1.frozen? a) → ∀ ty dc, (Builtin.copy_ #[25, 25] ty #[.slice (some ⟨w.heap.size, i * 2, none⟩) (xs.length + 1 - i) dc, .slice (some ⟨vb, 0, none⟩) 1 1]).run Try.prog W = .ok (goInt 1) (W.setCells w.heap.size (i * 2) (kiCell x)) := fun W hWc hWf ty dc =>
          run_copy_k W _ _ ty 61 2 w.heap.size (i * 2) (xs.length + 1 - i) dc ⟨vb, 0, none⟩ 1 1 (kiCell x) Try.underlying25 hsz 1 (by simp only [Nat.min_def]; split <;> omega) hxl
            (fun j u hj => by
              have hadd : (⟨vb, 0, none⟩ : Addr).add j = ⟨vb, j, none⟩ := by unfold Addr.add; split <;> simp_all
              rw [hadd, hWc, cell_of_row _ _ _ _ _ _ hv1]; simpa using hj)
            (fun j hj => by rw [hWc, cell_of_row _ _ _ _ _ _ g1, Array.getElem?_eq_getElem (by rw [hRs]; omega)]; rfl) (fun j hj => by rw [hWf]; exact frozen_of_row _ _ _ _ _ g1) hX1
        have hcpB : ∀ (W : World), (∀ a, W.cell? a = (W1.setCells w.heap.size (i * 2) (kiCell x)).cell? a) → (∀ a, W.frozen? a = (W1.setCells w.heap.size (i * 2) (kiCell x)).frozen? a) → ∀ ty dc sc, (Builtin.copy_ #[25, 25] ty #[.slice (some ⟨w.heap.size, (i + 1) * 2, none⟩) (xs.length - i) dc, .slice (some ⟨g, i * 2, none⟩) (xs.length - i) sc]).run Try.prog W = .ok (goInt ((xs.length - i : Nat) : Int)) (W.setCells w.heap.size ((i + 1) * 2) ((xs.drop i).flatMap kiCell)) := fun W hWc hWf ty dc sc =>
          run_copy_k W _ _ ty 61 2 w.heap.size ((i + 1) * 2) (xs.length - i) dc ⟨g, i * 2, none⟩ (xs.length - i) sc ((xs.drop i).flatMap kiCell) Try.underlying25 hsz (xs.length - i) (by simp only [Nat.min_def]; split <;> omega) hDl
            (fun j u hj => by
              have hadd : (⟨g, i * 2, none⟩ : Addr).add j = ⟨g, i * 2 + j, none⟩ := by unfold Addr.add; split <;> simp_all
              rw [hadd, hWc, cell_of_row _ _ _ _ _ _ hh2, ← cell_of_row _ _ _ _ _ _ hh]; exact hdr j u hj)
            (fun j hj => by rw [hWc, cell_of_row _ _ _ _ _ _ g2, Array.getElem?_eq_getElem (by rw [s2, hRs]; rw [hDl] at hj; omega)]; rfl) (fun j hj => by rw [hWf]; exact frozen_of_row _ _ _ _ _ g2) hD1
        have HE : ∀ WF, WF = (((w.alloc (.cells ROW 61)).drew.setCells w.heap.size (i * 2) (kiCell x)).drew).setCells w.heap.size ((i + 1) * 2) ((xs.drop i).flatMap kiCell) → Hid (Own WF base 61 2 kiCell (some ⟨w.heap.size, 0, none⟩) G (xs.take i ++ x :: xs.drop i) ∧ Gr w0 WF) := by
          intro WF hWF
          rw [hWF, drew_setCells]
          have hr : ((w.alloc (.cells ROW 61)).drew.drew).heap[w.heap.size]? = some (.cells ROW 61 (0, 0)) := heap_alloc_last w _
          exact ⟨Own.insertNew kiCell_len hr hbw hGm hRs i hi hGn hRt x, (Ch.setCells (Ch.setCells (Ch.refl w.heap.size _) _ _) _ _).gr ((h0.alloc _).drew.drew) h0.size⟩
        subst hW1
        have hE1 : ∀ a, ((w.alloc (.cells ROW 61)).drew).cell? a = (w.drew.alloc (.cells ROW 61)).cell? a := fun a => rfl
        have hE2 : ∀ a, ((w.alloc (.cells ROW 61)).drew).frozen? a = (w.drew.alloc (.cells ROW 61)).frozen? a := fun a => rfl
        have hF1 : ∀ a, (((w.alloc (.cells ROW 61)).drew.setCells w.heap.size (i * 2) (kiCell x)).drew).cell? a = ((w.drew.alloc (.cells ROW 61)).setCells w.heap.size (i * 2) (kiCell x)).cell? a := fun a => rfl
        have hF2 : ∀ a, (((w.alloc (.cells ROW 61)).drew.setCells w.heap.size (i * 2) (kiCell x)).drew).frozen? a = ((w.drew.alloc (.cells ROW 61)).setCells w.heap.size (i * 2) (kiCell x)).frozen? a := fun a => rfl
        have mixed : Try.prog.follows Departure.mixedOrders = true := by kernel_rfl
        have hn2 : ¬ ((i : Int) = (xs.length : Int)) := by omega
        have hb1 : (0 : Int) ≤ (i : Int) + 1 := by omega
        have htn : ((i : Int) + 1).toNat = i + 1 := by omega
        have hGi : ¬ (G = i) := by omega
        have hGim : ¬ (G = i + 1) := by omega
        have hci : ¬ (cap = i) := by omega
        have hb3 : (i : Int) ≤ (xs.length : Int) := by omega
        have hb6 : (i : Int) ≤ (xs.length : Int) + 1 := by omega
        have hb7 : (i : Int) + 1 ≤ (xs.length : Int) + 1 := by omega
        have hcm : cap ≤ 9223372036854775807 := by have := hcap.2; unfold maxLen at this; omega
        have hw3 : IntKind.i64.wrap ((xs.length : Int) + 1 - (i : Int)) = (xs.length : Int) + 1 - (i : Int) := by rw [IntKind.wrap_i64]; omega
        clear hkk hik hold hROW hG hRs hRt g1 g2 s2 t2 hh1 hh2 hv1 hG1 hx hz hh hfz hcs hdr h h0 hD1 hX1 hxl hDl hvc hv hHv hcap hbase hvb HBW hbw hb hne hvg hTl hGm
        generalize xs.take i ++ x :: xs.drop i = ys at *
        generalize hdd : (xs.drop i).flatMap kiCell = dd at *
        clear hdd
        generalize hnn : xs.length = n at *
        clear hnn
        go_enter Try.func106, Try.ntmps106
        go_wp2_with (first
          | (at_builtin; refine Lib.wpList_append_run _ rfl _ _ _ _ rfl _ _ rfl rfl _ _ (hrz _) ?_)
          | (at_builtin; refine wpList_copy_runI _ rfl _ _ 25 25 rfl _ _ rfl rfl (hcpA _ hE1 hE2 _ _) ?_)
          | (at_builtin; refine wpList_copy_runI _ rfl _ _ 25 25 rfl _ _ rfl rfl (hcpB _ (fun _ => rfl) (fun _ => rfl) _ _ _) ?_))
        go_region_law_o (refine step_copy_runI rfl _ _ 25 25 rfl (.slice (some ⟨w.heap.size, (i + 1) * 2, none⟩) (n - i) (G - (i + 1))) (.slice (some ⟨g, i * 2, none⟩) (n - i) (cap - i)) (by simp [Act.eval, Act.put]) (by simp [Act.eval, Act.put]) (hcpB _ hF1 hF2 3 (G - (i + 1)) (cap - i)) ?_)
        go_wp2
        go_ret
        exact ⟨_, _, rfl, (HE _ rfl).out.1, (HE _ rfl).out.2⟩
end Go.Proofs.Ytmpmfgkabjedpaa
