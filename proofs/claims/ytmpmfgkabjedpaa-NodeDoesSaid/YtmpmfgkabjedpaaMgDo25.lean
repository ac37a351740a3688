/- Layer 10: the node that a leaf's frame is (printed by ndof_gen.py). -/
import Derived.Test.YtmpmfgkabjedpaaMgDo21
import Derived.Test.YtmpmfgkabjedpaaMgDo24
namespace Go.Proofs.Ytmpmfgkabjedpaa
open Go.RowKit
set_option linter.unusedVariables false
set_option linter.unusedSimpArgs false
set_option maxRecDepth 100000
set_option maxHeartbeats 2000000
theorem lf_of (n id tx : Nat) (hn : n < 65536) (D : List UInt8) (hD : D.length ≤ 8000) (w : World) :
    Calls Try.prog 19 #[.agg #[.int .u8 2, .int .u16 (n : Nat), .int .u32 (id : Nat), .int .u64 (tx : Nat), .string (B D)]] w fun r w' => ∃ b c, r = .returned (.tuple #[.agg #[.bool ((lfAns D n).2 == 0), b, c], .int .i64 (lfAns D n).2]) ∧ NsAt w' (.agg #[.bool ((lfAns D n).2 == 0), b, c]) ((lfAns D n).2 == 0) (lfAns D n).1 ∧ Gr w w' := by
  have cB := fun w1 => Lib.hid (lf_read D hD n (by unfold I64; omega) w1)
  have hcs := rdAns_cases lfB ceCan ceBad (fun x : Ce => x.1) D (n : Int)
  change (∃ l : List Ce, lfAns D n = (l, 0) ∧ _) ∨ (∃ e, e ≠ 0 ∧ lfAns D n = ([], e)) at hcs
  have hcs2 : ((lfAns D n).2 ≠ 0 → (lfAns D n).1 = []) ∧ (lfAns D n).1.length ≤ 4000 := by
    rcases hcs with ⟨l, h, h0, hL, _⟩ | ⟨e, he, h⟩
    · rw [h]; refine ⟨fun k => absurd rfl k, ?_⟩
      have := hL.len
      have h1 := hL.1
      simp only [Int.toNat_natCast] at *
      show l.length ≤ 4000
      omega
    · rw [h]; exact ⟨fun _ => rfl, by simp⟩
  clear hcs
  obtain ⟨hcs, hlen⟩ := hcs2
  generalize lfAns D n = dd at *
  obtain ⟨xs, be⟩ := dd
  simp only at cB hcs hlen
  have hw64 : IntKind.i64.wrap ((n : Nat) : Int) = ((n : Nat) : Int) := by rw [IntKind.wrap_i64]; omega
  obtain ⟨r0, r1, r2⟩ := heap_alloc3 w (.cells #[.int .u8 2, .int .u16 (n : Nat), .int .u32 (id : Nat), .int .u64 (tx : Nat), .string (B D)] 45) (.cells #[.bool false, .slice none 0 0, .slice none 0 0] 27) (.cells #[.bool true, .slice none 0 0, .slice none 0 0] 27)
  have HU : Hid (Gr w (((w.alloc (.cells #[.int .u8 2, .int .u16 (n : Nat), .int .u32 (id : Nat), .int .u64 (tx : Nat), .string (B D)] 45)).alloc (.cells #[.bool false, .slice none 0 0, .slice none 0 0] 27)).alloc (.cells #[.bool true, .slice none 0 0, .slice none 0 0] 27)) ∧ (((w.alloc (.cells #[.int .u8 2, .int .u16 (n : Nat), .int .u32 (id : Nat), .int .u64 (tx : Nat), .string (B D)] 45)).alloc (.cells #[.bool false, .slice none 0 0, .slice none 0 0] 27)).alloc (.cells #[.bool true, .slice none 0 0, .slice none 0 0] 27)).heap[w.heap.size]? = some (.cells #[.int .u8 2, .int .u16 (n : Nat), .int .u32 (id : Nat), .int .u64 (tx : Nat), .string (B D)] 45 (0, 0)) ∧ (((w.alloc (.cells #[.int .u8 2, .int .u16 (n : Nat), .int .u32 (id : Nat), .int .u64 (tx : Nat), .string (B D)] 45)).alloc (.cells #[.bool false, .slice none 0 0, .slice none 0 0] 27)).alloc (.cells #[.bool true, .slice none 0 0, .slice none 0 0] 27)).heap[w.heap.size + 1]? = some (.cells #[.bool false, .slice none 0 0, .slice none 0 0] 27 (0, 0)) ∧ (((w.alloc (.cells #[.int .u8 2, .int .u16 (n : Nat), .int .u32 (id : Nat), .int .u64 (tx : Nat), .string (B D)] 45)).alloc (.cells #[.bool false, .slice none 0 0, .slice none 0 0] 27)).alloc (.cells #[.bool true, .slice none 0 0, .slice none 0 0] 27)).heap[w.heap.size + 1 + 1]? = some (.cells #[.bool true, .slice none 0 0, .slice none 0 0] 27 (0, 0)) ∧ w.heap.size + 2 < (((w.alloc (.cells #[.int .u8 2, .int .u16 (n : Nat), .int .u32 (id : Nat), .int .u64 (tx : Nat), .string (B D)] 45)).alloc (.cells #[.bool false, .slice none 0 0, .slice none 0 0] 27)).alloc (.cells #[.bool true, .slice none 0 0, .slice none 0 0] 27)).heap.size) := by
    exact ⟨(((Gr.refl w).alloc _).alloc _).alloc _, r0, r1, r2, by simp only [alloc_size]; omega⟩
  clear r0 r1 r2
  go_enter Try.func19, Try.ntmps19
  go_wp2
  generalize (((w.alloc (.cells #[.int .u8 2, .int .u16 (n : Nat), .int .u32 (id : Nat), .int .u64 (tx : Nat), .string (B D)] 45)).alloc (.cells #[.bool false, .slice none 0 0, .slice none 0 0] 27)).alloc (.cells #[.bool true, .slice none 0 0, .slice none 0 0] 27)) = U at *
  generalize hgg : w.heap.size = g at *
  have HG0 := Lib.hid hgg
  clear hgg
  have f1 := row_cell HU.out.2.1 1 _ rfl
  have f4 := row_cell HU.out.2.1 4 _ rfl
  have HQ : Hid (U.cell? ⟨g, 1, none⟩ = some (.int .u16 (n : Nat)) ∧ U.cell? ⟨g, 4, none⟩ = some (.string (B D))) := ⟨f1, f4⟩
  have hne : g ≠ g + 1 + 1 := by omega
  have HUd := Lib.hid HU.out.1.drew
  go_region_held3 (fun w' => w'.cell? ⟨g, 1, none⟩ = some (.int .u16 (n : Nat)) ∧ w'.cell? ⟨g, 4, none⟩ = some (.string (B D))) (first | exact HQ.out | (with_reducible exact ⟨((Ch.refl (g + 1 + 1) _).setCell 1 _).cell hne HQ.out.1, ((Ch.refl (g + 1 + 1) _).setCell 1 _).cell hne HQ.out.2⟩) | assumption)
    (first
      | (go_at_call 37; refine (sl_leaves _).mono ?_; rintro r v2 ⟨rfl, hg⟩; have HG2 := Lib.hid ((Gr.refl U).drew.trans hg); have HQ : Hid (v2.cell? ⟨g, 1, none⟩ = some (.int .u16 (n : Nat)) ∧ v2.cell? ⟨g, 4, none⟩ = some (.string (B D))) := ⟨HG2.out.cells HQ.out.1, HG2.out.cells HQ.out.2⟩; clear hg)
      | (go_at_call 55; refine (cB _).out.mono ?_; clear cB; rintro r v3 ⟨A, cap, rfl, ho, hg⟩; have HO := Lib.hid ho; have HG3 := Lib.hid (HG2.out.trans hg); have HQ : Hid (v3.cell? ⟨g, 1, none⟩ = some (.int .u16 (n : Nat)) ∧ v3.cell? ⟨g, 4, none⟩ = some (.string (B D))) := ⟨hg.cells HQ.out.1, hg.cells HQ.out.2⟩; have hf3 := (HG3.out.block (lt_of_row HU.out.2.2.2.1)).trans HU.out.2.2.2.1; have c1 := row_cell hf3 1 _ rfl; have z1 := frozen_of_row _ _ 1 _ _ hf3; have HF3 := Lib.hid hf3; have HB2 := Lib.hid (show g + 1 + 1 < v2.heap.size from lt_of_row ((HG2.out.block (lt_of_row HU.out.2.2.2.1)).trans HU.out.2.2.2.1)); clear hg hf3 ho))
  have HU4 : Hid (Gr w (v3.setCell ⟨g + 1 + 1, 1, none⟩ (.slice A xs.length cap)) ∧ (v3.setCell ⟨g + 1 + 1, 1, none⟩ (.slice A xs.length cap)).heap[g + 1]? = some (.cells #[.bool false, .slice none 0 0, .slice none 0 0] 27 (0, 0)) ∧ (v3.setCell ⟨g + 1 + 1, 1, none⟩ (.slice A xs.length cap)).heap[g + 1 + 1]? = some (.cells #[.bool true, .slice A xs.length cap, .slice none 0 0] 27 (0, 0)) ∧ Own (v3.setCell ⟨g + 1 + 1, 1, none⟩ (.slice A xs.length cap)) v2.heap.size 59 4 ceCell A cap xs ∧ g + 1 + 1 < v2.heap.size) := by
    have hgw : w.heap.size ≤ g + 1 + 1 := by rw [HG0.out]; omega
    have hno : ownOf A ≠ some (g + 1 + 1) := by
      intro he
      have h1 := (HO.out.lt he).2
      have h2 := HB2.out
      omega
    exact ⟨((Ch.refl (g + 1 + 1) v3).setCell 1 _).gr (HU.out.1.trans HG3.out) hgw, (heap_setCell_other _ _ _ _ (by show g + 1 ≠ g + 1 + 1; omega)).trans ((HG3.out.block (lt_of_row HU.out.2.2.1)).trans HU.out.2.2.1), heap_setCell_same _ _ 1 _ _ _ HF3.out, HO.out.ch ((Ch.refl (g + 1 + 1) v3).setCell 1 _) hno, HB2.out⟩
  clear HU HG2 HG3 HF3 HQ c1 z1 HUd HO HB2 f1 f4
  generalize v3.setCell ⟨g + 1 + 1, 1, none⟩ (.slice A xs.length cap) = U4 at *
  generalize v2.heap.size = bs at *
  have hgw : w.heap.size ≤ g + 1 := by rw [HG0.out]; omega
  have hno : ownOf A ≠ some (g + 1) := by
    intro he
    have h1 := (HU4.out.2.2.2.1.lt he).2
    have h2 := HU4.out.2.2.2.2
    omega
  have HNO := Lib.hid hno
  clear hno
  by_cases he : be = 0
  · subst he
    have cR := fun w1 (hg : Gr U4 w1) => Lib.hid (nd_rightL (.agg #[.bool true, .slice A xs.length cap, .slice none 0 0]) xs w1 ⟨A, cap, rfl, (HU4.out.2.2.2.1.gr hg).slice ceCell_len, HU4.out.2.2.2.1.cap_le.1, HU4.out.2.2.2.1.cap_le.2⟩)
    have HRW : Hid (Gr U4 U4) := Gr.refl _
    have n0 := row_cell HU4.out.2.2.1 0 _ rfl
    have n1 := row_cell HU4.out.2.2.1 1 _ rfl
    have n2 := row_cell HU4.out.2.2.1 2 _ rfl
    have y0 := row_cell HU4.out.2.1 0 _ rfl
    have fy0 := frozen_of_row _ _ 0 _ _ HU4.out.2.1
    have y1 := row_cell HU4.out.2.1 1 _ rfl
    have fy1 := frozen_of_row _ _ 1 _ _ HU4.out.2.1
    have y2 := row_cell HU4.out.2.1 2 _ rfl
    have fy2 := frozen_of_row _ _ 2 _ _ HU4.out.2.1
    go_wp2_with (go_at_call 50; refine (cR _ HRW.out).out.mono ?_; clear cR; rintro r v5 ⟨rfl, hg⟩; have hy := (hg.block (lt_of_row HU4.out.2.1)).trans HU4.out.2.1; have HY := Lib.hid (And.intro (HU4.out.1.trans hg) (And.intro hy (HU4.out.2.2.2.1.gr hg))); have y0 := row_cell hy 0 _ rfl; have fy0 := frozen_of_row _ _ 0 _ _ hy; have y1 := row_cell hy 1 _ rfl; have fy1 := frozen_of_row _ _ 1 _ _ hy; have y2 := row_cell hy 2 _ rfl; have fy2 := frozen_of_row _ _ 2 _ _ hy; have hn4 := (hg.block (lt_of_row HU4.out.2.2.1)).trans HU4.out.2.2.1; have n0 := row_cell hn4 0 _ rfl; have n1 := row_cell hn4 1 _ rfl; have n2 := row_cell hn4 2 _ rfl; clear hg hy hn4)
    refine bodyPost_ret (results_cell_tmp_row rfl _ _ (g + 1) _ #[.bool true, .slice A xs.length cap, .slice none 0 0] (0, 0) (.struct _) rfl (heap_setCell_same _ _ 2 _ _ (.slice none 0 0) (heap_setCell_same _ _ 1 _ _ (.slice A xs.length cap) (heap_setCell_same _ _ 0 _ _ (.bool true) HY.out.2.1))) Try.underlying27 rfl (by kernel_rfl)) rfl ⟨.slice A xs.length cap, .slice none 0 0, rfl, .inl ⟨rfl, A, cap, rfl, (HY.out.2.2.ch ((((Ch.refl (g + 1) v5).setCell 0 (.bool true)).setCell 1 (.slice A xs.length cap)).setCell 2 (.slice none 0 0)) HNO.out).slice ceCell_len, HY.out.2.2.cap_le.1, HY.out.2.2.cap_le.2⟩, ((((Ch.refl (g + 1) v5).setCell 0 (.bool true)).setCell 1 (.slice A xs.length cap)).setCell 2 (.slice none 0 0)).gr HY.out.1 hgw⟩
  · have heb : (be == 0) = false := by simp [he]
    have heb2 : (be != 0) = true := by simp [he]
    obtain rfl := hcs he
    simp only [List.length_nil] at *
    have n0 := row_cell HU4.out.2.2.1 0 _ rfl
    have n1 := row_cell HU4.out.2.2.1 1 _ rfl
    have n2 := row_cell HU4.out.2.2.1 2 _ rfl
    have y0 := row_cell HU4.out.2.1 0 _ rfl
    have fy0 := frozen_of_row _ _ 0 _ _ HU4.out.2.1
    have y1 := row_cell HU4.out.2.1 1 _ rfl
    have fy1 := frozen_of_row _ _ 1 _ _ HU4.out.2.1
    have y2 := row_cell HU4.out.2.1 2 _ rfl
    have fy2 := frozen_of_row _ _ 2 _ _ HU4.out.2.1
    go_wp2
    refine bodyPost_ret (results_cell_tmp_row rfl _ _ (g + 1) _ #[.bool false, .slice none 0 0, .slice none 0 0] (0, 0) (.struct _) rfl (heap_setCell_same _ _ 2 _ _ (.slice none 0 0) (heap_setCell_same _ _ 1 _ _ (.slice none 0 0) (heap_setCell_same _ _ 0 _ _ (.bool false) HU4.out.2.1))) Try.underlying27 rfl (by kernel_rfl)) rfl ⟨.slice none 0 0, .slice none 0 0, by rw [heb]; rfl, by rw [heb]; exact .inr ⟨rfl, [], rfl, none, 0, rfl, .inl rfl, by simp, by decide⟩, ((((Ch.refl (g + 1) U4).setCell 0 (.bool false)).setCell 1 (.slice none 0 0)).setCell 2 (.slice none 0 0)).gr HU4.out.1 hgw⟩
end Go.Proofs.Ytmpmfgkabjedpaa
