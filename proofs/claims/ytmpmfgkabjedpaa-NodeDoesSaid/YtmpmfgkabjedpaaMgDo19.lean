/- Layer 10: may a branch be: the code's word, the document's. -/
import Derived.Test.YtmpmfgkabjedpaaMgDo09
import Derived.Test.YtmpmfgkabjedpaaMgDo14
import Derived.Test.YtmpmfgkabjedpaaMgDo18
namespace Go.Proofs.Ytmpmfgkabjedpaa
open Go.RowKit
set_option linter.unusedVariables false
set_option linter.unusedSimpArgs false
set_option maxRecDepth 100000
set_option maxHeartbeats 2000000
def hdK0 (ys : List Ki) : ByteArray := match ys with | [] => .empty | y :: _ => y.1
theorem nd_rightL (v : Value) (xs : List Ce) (w : World) (h : LfAt w v xs) :
    Calls Try.prog 50 #[v] w fun r w' => r = .returned (.bool true) ∧ Gr w w' := by
  obtain ⟨A, cap, rfl, hs, h1, h2⟩ := h
  have HW : Hid (Gr w (w.alloc (.cells #[.bool true, .slice A xs.length cap, .slice none 0 0] 27))) := (Gr.refl w).alloc _
  have hw0 := heap_alloc_last w (.cells #[.bool true, .slice A xs.length cap, .slice none 0 0] 27)
  have n0 := row_cell hw0 0 _ rfl
  clear hs hw0
  go_enter Try.func50, Try.ntmps50
  go_wp2
  go_ret
  exact ⟨rfl, HW.out⟩
theorem nd_rightK (v : Value) (ys : List Ki) (w : World) (h : KiAt w v ys) (b : Bool) (hb : b = true ↔ (ys ≠ [] ∧ hdK0 ys = .empty ∧ ¬ kiLow ys)) :
    Calls Try.prog 50 #[v] w fun r w' => r = .returned (.bool b) ∧ Gr w w' := by
  obtain ⟨A, cap, rfl, hs, h1, h2⟩ := h
  have HW : Hid (Gr w (w.alloc (.cells #[.bool false, .slice none 0 0, .slice A ys.length cap] 27))) := (Gr.refl w).alloc _
  unfold maxLen at h2
  by_cases hy : ys = []
  · subst hy
    obtain rfl : b = false := by
      cases b with
      | false => rfl
      | true => exact absurd rfl (hb.1 rfl).1
    clear hb hs
    simp only [List.length_nil] at *
    go_enter Try.func50, Try.ntmps50
    go_wp2
    go_ret
    exact ⟨rfl, HW.out⟩
  · obtain ⟨y, yt, rfl⟩ := List.exists_cons_of_ne_nil hy
    have HS := Lib.hid hs
    rcases hs with h0 | ⟨a, off, rfl, hcell⟩
    · cases h0
    have k0 := HW.out.cells (hcell 0 y rfl 0 _ rfl)
    simp only [Nat.zero_mul, Nat.add_zero] at k0
    have cC := fun w1 (hg : Gr w w1) => Lib.hid (nd_contains (some ⟨a, off, none⟩) cap (y :: yt) h1 (by unfold maxLen; omega) w1 (HS.out.gr hg))
    generalize hn : (y :: yt).length = n at *
    have hn0 : 0 < n := by rw [← hn]; simp
    have hn1 : (0 : Int) < (n : Int) := by omega
    have HB := Lib.hid hb
    clear hcell hy hn hb
    by_cases hk : y.1 = .empty
    · have hk2 : y.1.toList.isEmpty = true := by rw [hk, ByteArray.toList_eq]; rfl
      obtain ⟨bl, hbl⟩ : ∃ bl, bl = kiLowB (y :: yt) := ⟨_, rfl⟩
      rw [← hbl] at cC
      have HBL : Hid (b = !bl) := by
        unfold Hid
        have h := HB.out
        have h3 : kiLowB (y :: yt) = true ↔ kiLow (y :: yt) := by unfold kiLowB; simp
        rw [hbl]
        cases hq : kiLowB (y :: yt) with
        | true =>
          cases b with
          | false => rfl
          | true => exact absurd (h3.1 hq) (h.1 rfl).2.2
        | false =>
          cases b with
          | true => rfl
          | false => exact (h.2 ⟨by simp, hk, fun hl => by rw [h3.2 hl] at hq; cases hq⟩)
      clear hbl
      obtain rfl := HBL.out
      cases bl
      · go_enter Try.func50, Try.ntmps50
        go_wp2_with (go_at_call 84; refine (cC _ HW.out).out.mono ?_; clear cC; rintro r v1 ⟨rfl, hg⟩; have HG := Lib.hid (HW.out.trans hg); clear hg)
        go_ret
        exact ⟨rfl, HG.out⟩
      · go_enter Try.func50, Try.ntmps50
        go_wp2_with (go_at_call 84; refine (cC _ HW.out).out.mono ?_; clear cC; rintro r v1 ⟨rfl, hg⟩; have HG := Lib.hid (HW.out.trans hg); clear hg)
        go_ret
        exact ⟨rfl, HG.out⟩
    · have hk2 : y.1.toList.isEmpty = false := by
        cases h : y.1.toList.isEmpty with
        | false => rfl
        | true =>
          refine absurd ?_ hk
          rw [ByteArray.toList_eq] at h
          have h3 : y.1.data.toList = [] := by simpa using h
          exact ByteArray.ext (Array.toList_inj.1 h3)
      obtain rfl : b = false := by
        cases b with
        | false => rfl
        | true => exact absurd (HB.out.1 rfl).2.1 hk
      go_enter Try.func50, Try.ntmps50
      go_wp2
      go_ret
      exact ⟨rfl, HW.out⟩
end Go.Proofs.Ytmpmfgkabjedpaa
namespace Go.Proofs.Ytmpmfgkabjedpaa
open Go.RowKit
set_option linter.unusedVariables false
set_option linter.unusedSimpArgs false
set_option maxRecDepth 100000
set_option maxHeartbeats 2000000
/-- a frame, or the error: of a kind, a count, a number, a Tx, a body's answer -/
def ndFr (kind n id tx : Nat) (d : ByteArray × Int) : Value :=
  if d.2 = 0 then .tuple #[.agg #[.int .u8 (kind : Nat), .int .u16 (n : Nat), .int .u32 (id : Nat), .int .u64 (tx : Nat), .string d.1], .int .i64 0]
  else .tuple #[.agg #[.int .u8 0, .int .u16 0, .int .u32 0, .int .u64 0, .string { data := #[] }], .int .i64 d.2]
theorem nd_frameL (v : Value) (xs : List Ce) (hl : xs.length ≤ 4000) (hx : ∀ x ∈ xs, ceOk x) (id tx : Nat) (w : World) (h : LfAt w v xs) :
    Calls Try.prog 17 #[v, .int .u32 (id : Nat), .int .u64 (tx : Nat)] w fun r w' => r = .returned (ndFr 2 xs.length id tx (slBody (lfErr xs) (xs.map lfB))) ∧ Gr w w' := by
  have cR := fun w1 (hg : Gr w w1) => Lib.hid (nd_rightL v xs w1 (h.gr hg))
  obtain ⟨A, cap, rfl, hs, h1, h2⟩ := h
  have cB := fun w1 (hg : Gr w w1) => Lib.hid (lf_body A cap xs h1 h2 hl hx w1 (hs.gr hg))
  clear hs hx
  generalize slBody (lfErr xs) (xs.map lfB) = dd at *
  obtain ⟨bp, be⟩ := dd
  simp only at cB
  have HW : Hid (Gr w (((w.alloc (.cells #[.bool true, .slice A xs.length cap, .slice none 0 0] 27)).alloc (.cells #[.int .u8 0, .int .u16 0, .int .u32 0, .int .u64 0, .string { data := #[] }] 45)))) := ((Gr.refl w).alloc _).alloc _
  have hr1 := heap_alloc_last (w.alloc (.cells #[.bool true, .slice A xs.length cap, .slice none 0 0] 27)) (.cells #[.int .u8 0, .int .u16 0, .int .u32 0, .int .u64 0, .string { data := #[] }] 45)
  rw [alloc_size] at hr1
  have hr0 := (((Gr.refl (w.alloc (.cells #[.bool true, .slice A xs.length cap, .slice none 0 0] 27))).alloc (.cells #[.int .u8 0, .int .u16 0, .int .u32 0, .int .u64 0, .string { data := #[] }] 45)).block (k := w.heap.size) (by rw [alloc_size]; omega)).trans (heap_alloc_last w (.cells #[.bool true, .slice A xs.length cap, .slice none 0 0] 27))
  have HR := Lib.hid (And.intro hr0 hr1)
  have hw16 : IntKind.u16.wrap ((xs.length : Nat) : Int) = ((xs.length : Nat) : Int) := by unfold IntKind.wrap; simp [IntKind.signed, IntKind.bits]; omega
  clear hr0 hr1
  go_enter Try.func17, Try.ntmps17
  go_wp2_with (go_at_call 50; refine (cR _ HW.out).out.mono ?_; clear cR; rintro r v1 ⟨rfl, hg⟩; have q0 := (hg.block (lt_of_row HR.out.1)).trans HR.out.1; have q1 := (hg.block (lt_of_row HR.out.2)).trans HR.out.2; have HQ := Lib.hid (And.intro (HW.out.trans hg) (And.intro q0 q1)); have n0 := row_cell q0 0 _ rfl; have n1 := row_cell q0 1 _ rfl; have n2 := row_cell q0 2 _ rfl; have m0 := ((Gr.refl v1).alloc (.cells #[.int .u8 3, .int .u16 0, .int .u32 (id : Nat), .int .u64 (tx : Nat), .string { data := #[] }] 45)).cells n0; have m1 := ((Gr.refl v1).alloc (.cells #[.int .u8 3, .int .u16 0, .int .u32 (id : Nat), .int .u64 (tx : Nat), .string { data := #[] }] 45)).cells n1; have m2 := ((Gr.refl v1).alloc (.cells #[.int .u8 3, .int .u16 0, .int .u32 (id : Nat), .int .u64 (tx : Nat), .string { data := #[] }] 45)).cells n2; clear q0 q1 hg)
  have HF : Hid (Gr w (v1.alloc (.cells #[.int .u8 3, .int .u16 0, .int .u32 (id : Nat), .int .u64 (tx : Nat), .string { data := #[] }] 45)) ∧ (v1.alloc (.cells #[.int .u8 3, .int .u16 0, .int .u32 (id : Nat), .int .u64 (tx : Nat), .string { data := #[] }] 45)).heap[w.heap.size]? = some (.cells #[.bool true, .slice A xs.length cap, .slice none 0 0] 27 (0, 0)) ∧ (v1.alloc (.cells #[.int .u8 3, .int .u16 0, .int .u32 (id : Nat), .int .u64 (tx : Nat), .string { data := #[] }] 45)).heap[w.heap.size + 1]? = some (.cells #[.int .u8 0, .int .u16 0, .int .u32 0, .int .u64 0, .string { data := #[] }] 45 (0, 0)) ∧ (v1.alloc (.cells #[.int .u8 3, .int .u16 0, .int .u32 (id : Nat), .int .u64 (tx : Nat), .string { data := #[] }] 45)).heap[v1.heap.size]? = some (.cells #[.int .u8 3, .int .u16 0, .int .u32 (id : Nat), .int .u64 (tx : Nat), .string { data := #[] }] 45 (0, 0)) ∧ w.heap.size + 1 < v1.heap.size) := by
    have hG : Gr v1 (v1.alloc (.cells #[.int .u8 3, .int .u16 0, .int .u32 (id : Nat), .int .u64 (tx : Nat), .string { data := #[] }] 45)) := (Gr.refl v1).alloc _
    exact ⟨HQ.out.1.trans hG, (hG.block (lt_of_row HQ.out.2.1)).trans HQ.out.2.1, (hG.block (lt_of_row HQ.out.2.2)).trans HQ.out.2.2, heap_alloc_last v1 _, lt_of_row HQ.out.2.2⟩
  clear n0 n1 n2 m0 m1 m2
  generalize v1.alloc (.cells #[.int .u8 3, .int .u16 0, .int .u32 (id : Nat), .int .u64 (tx : Nat), .string { data := #[] }] 45) = U at *
  generalize v1.heap.size = fb at *
  have n1 := row_cell HF.out.2.1 1 _ rfl
  have f0 := row_cell HF.out.2.2.2.1 0 _ rfl
  have f1 := row_cell HF.out.2.2.2.1 1 _ rfl
  have z0 := frozen_of_row _ _ 0 _ _ HF.out.2.2.2.1
  have z1 := frozen_of_row _ _ 1 _ _ HF.out.2.2.2.1
  have hne : w.heap.size ≠ fb := by have := HF.out.2.2.2.2; omega
  have n1b : (U.setCell ⟨fb, 0, none⟩ (.int .u8 2)).cell? ⟨w.heap.size, 1, none⟩ = some (.slice A xs.length cap) := ((Ch.refl fb U).setCell 0 _).cell hne n1
  go_region
  have HF2 : Hid (Gr w ((U.setCell ⟨fb, 0, none⟩ (.int .u8 2)).setCell ⟨fb, 1, none⟩ (.int .u16 ((xs.length : Nat) : Int))).drew ∧ ((U.setCell ⟨fb, 0, none⟩ (.int .u8 2)).setCell ⟨fb, 1, none⟩ (.int .u16 ((xs.length : Nat) : Int))).drew.heap[w.heap.size]? = some (.cells #[.bool true, .slice A xs.length cap, .slice none 0 0] 27 (0, 0)) ∧ ((U.setCell ⟨fb, 0, none⟩ (.int .u8 2)).setCell ⟨fb, 1, none⟩ (.int .u16 ((xs.length : Nat) : Int))).drew.heap[w.heap.size + 1]? = some (.cells #[.int .u8 0, .int .u16 0, .int .u32 0, .int .u64 0, .string { data := #[] }] 45 (0, 0)) ∧ ((U.setCell ⟨fb, 0, none⟩ (.int .u8 2)).setCell ⟨fb, 1, none⟩ (.int .u16 ((xs.length : Nat) : Int))).drew.heap[fb]? = some (.cells #[.int .u8 2, .int .u16 ((xs.length : Nat) : Int), .int .u32 (id : Nat), .int .u64 (tx : Nat), .string { data := #[] }] 45 (0, 0)) ∧ w.heap.size + 1 < fb) := by
    have h5 := HF.out.2.2.2.2
    have k1 := set2_gr fb (.int .u8 2) (.int .u16 ((xs.length : Nat) : Int)) HF.out.1 (by omega)
    have k2 := (set2_other U fb w.heap.size (.int .u8 2) (.int .u16 ((xs.length : Nat) : Int)) (by omega)).trans HF.out.2.1
    have k3 := (set2_other U fb (w.heap.size + 1) (.int .u8 2) (.int .u16 ((xs.length : Nat) : Int)) (by omega)).trans HF.out.2.2.1
    have k4 := heap_setCell_same _ _ 1 _ _ (.int .u16 ((xs.length : Nat) : Int)) (heap_setCell_same _ _ 0 _ _ (.int .u8 2) HF.out.2.2.2.1)
    exact ⟨k1.drew, k2, k3, k4, h5⟩
  clear n1 n1b f0 f1 z0 z1 HF
  generalize ((U.setCell ⟨fb, 0, none⟩ (.int .u8 2)).setCell ⟨fb, 1, none⟩ (.int .u16 ((xs.length : Nat) : Int))).drew = U2 at *
  have HG2d := Lib.hid HF2.out.1.drew
  have HQ : Hid (U2.cell? ⟨w.heap.size, 1, none⟩ = some (.slice A xs.length cap)) := row_cell HF2.out.2.1 1 _ rfl
  go_wp2
  go_region_held3 (fun w' => w'.cell? ⟨w.heap.size, 1, none⟩ = some (.slice A xs.length cap)) (first | exact HQ.out | (with_reducible exact ((Ch.refl fb _).setCell 4 _).cell hne HQ.out) | assumption)
    (first
      | (go_at_call 37; refine (sl_leaves _).mono ?_; rintro r v2 ⟨rfl, hg⟩; have HG2 := Lib.hid ((Gr.refl U2).drew.trans hg); have HQ : Hid (v2.cell? ⟨w.heap.size, 1, none⟩ = some (.slice A xs.length cap)) := HG2.out.cells HQ.out; clear hg)
      | (go_at_call 51; refine (cB _ (HF2.out.1.trans HG2.out)).out.mono ?_; clear cB; rintro r v3 ⟨rfl, hg⟩; have HG3 := Lib.hid (HG2.out.trans hg); have HQ : Hid (v3.cell? ⟨w.heap.size, 1, none⟩ = some (.slice A xs.length cap)) := hg.cells HQ.out; have hf3 := (HG3.out.block (lt_of_row HF2.out.2.2.2.1)).trans HF2.out.2.2.2.1; have f4 := row_cell hf3 4 _ rfl; have z4 := frozen_of_row _ _ 4 _ _ hf3; have HF3 := Lib.hid hf3; clear hg hf3))
  have HU4 : Hid (Gr w (v3.setCell ⟨fb, 4, none⟩ (.string bp)) ∧ (v3.setCell ⟨fb, 4, none⟩ (.string bp)).heap[w.heap.size + 1]? = some (.cells #[.int .u8 0, .int .u16 0, .int .u32 0, .int .u64 0, .string { data := #[] }] 45 (0, 0)) ∧ (v3.setCell ⟨fb, 4, none⟩ (.string bp)).heap[fb]? = some (.cells #[.int .u8 2, .int .u16 ((xs.length : Nat) : Int), .int .u32 (id : Nat), .int .u64 (tx : Nat), .string bp] 45 (0, 0)) ∧ w.heap.size + 1 < fb) := by
    have h5 := HF2.out.2.2.2.2
    exact ⟨((Ch.refl fb v3).setCell 4 _).gr (HF2.out.1.trans HG3.out) (by omega), (heap_setCell_other _ _ _ _ (by show w.heap.size + 1 ≠ fb; omega)).trans ((HG3.out.block (lt_of_row HF2.out.2.2.1)).trans HF2.out.2.2.1), heap_setCell_same _ _ 4 _ _ _ HF3.out, h5⟩
  clear HF2 HG2 HG3 HF3 HQ f4 z4 HG2d
  generalize v3.setCell ⟨fb, 4, none⟩ (.string bp) = U4 at *
  have f0 := row_cell HU4.out.2.2.1 0 _ rfl
  have f1 := row_cell HU4.out.2.2.1 1 _ rfl
  have f2 := row_cell HU4.out.2.2.1 2 _ rfl
  have f3 := row_cell HU4.out.2.2.1 3 _ rfl
  have f4 := row_cell HU4.out.2.2.1 4 _ rfl
  have y0 := row_cell HU4.out.2.1 0 _ rfl
  have y1 := row_cell HU4.out.2.1 1 _ rfl
  have y2 := row_cell HU4.out.2.1 2 _ rfl
  have y3 := row_cell HU4.out.2.1 3 _ rfl
  have y4 := row_cell HU4.out.2.1 4 _ rfl
  have fy0 := frozen_of_row _ _ 0 _ _ HU4.out.2.1
  have fy1 := frozen_of_row _ _ 1 _ _ HU4.out.2.1
  have fy2 := frozen_of_row _ _ 2 _ _ HU4.out.2.1
  have fy3 := frozen_of_row _ _ 3 _ _ HU4.out.2.1
  have fy4 := frozen_of_row _ _ 4 _ _ HU4.out.2.1
  by_cases he : be = 0
  · subst he
    go_wp2
    refine bodyPost_ret (results_cell_tmp_row rfl _ _ (w.heap.size + 1) _ #[.int .u8 2, .int .u16 ((xs.length : Nat) : Int), .int .u32 (id : Nat), .int .u64 (tx : Nat), .string bp] (0, 0) (.struct _) rfl (heap_setCell_same _ _ 4 _ _ (.string bp) (heap_setCell_same _ _ 3 _ _ (.int .u64 (tx : Nat)) (heap_setCell_same _ _ 2 _ _ (.int .u32 (id : Nat)) (heap_setCell_same _ _ 1 _ _ (.int .u16 ((xs.length : Nat) : Int)) (heap_setCell_same _ _ 0 _ _ (.int .u8 2) HU4.out.2.1))))) Try.underlying45 rfl (by kernel_rfl)) rfl ⟨by unfold ndFr; rw [if_pos rfl]; rfl, ((((((Ch.refl (w.heap.size + 1) U4).setCell 0 (.int .u8 2)).setCell 1 (.int .u16 ((xs.length : Nat) : Int))).setCell 2 (.int .u32 (id : Nat))).setCell 3 (.int .u64 (tx : Nat))).setCell 4 (.string bp)).gr HU4.out.1 (Nat.le_succ _)⟩
  · have heb : (be != 0) = true := by simp [he]
    go_wp2
    refine bodyPost_ret (results_cell_tmp_row rfl _ _ (w.heap.size + 1) _ #[.int .u8 0, .int .u16 0, .int .u32 0, .int .u64 0, .string { data := #[] }] (0, 0) (.struct _) rfl (heap_setCell_same _ _ 4 _ _ (.string { data := #[] }) (heap_setCell_same _ _ 3 _ _ (.int .u64 0) (heap_setCell_same _ _ 2 _ _ (.int .u32 0) (heap_setCell_same _ _ 1 _ _ (.int .u16 0) (heap_setCell_same _ _ 0 _ _ (.int .u8 0) HU4.out.2.1))))) Try.underlying45 rfl (by kernel_rfl)) rfl ⟨by unfold ndFr; rw [if_neg he]; rfl, ((((((Ch.refl (w.heap.size + 1) U4).setCell 0 (.int .u8 0)).setCell 1 (.int .u16 0)).setCell 2 (.int .u32 0)).setCell 3 (.int .u64 0)).setCell 4 (.string { data := #[] })).gr HU4.out.1 (Nat.le_succ _)⟩
end Go.Proofs.Ytmpmfgkabjedpaa
namespace Go.Proofs.Ytmpmfgkabjedpaa
open Go.RowKit
set_option linter.unusedVariables false
set_option linter.unusedSimpArgs false
set_option maxRecDepth 100000
set_option maxHeartbeats 2000000
theorem nd_frameK (v : Value) (xs : List Ki) (hl : xs.length ≤ 4000) (hx : ∀ x ∈ xs, kiOk x) (id tx : Nat) (w : World) (h : KiAt w v xs) (hr : xs ≠ [] ∧ hdK0 xs = .empty ∧ ¬ kiLow xs) :
    Calls Try.prog 17 #[v, .int .u32 (id : Nat), .int .u64 (tx : Nat)] w fun r w' => r = .returned (ndFr 3 xs.length id tx (slBody (kiErr xs) (xs.map kiB))) ∧ Gr w w' := by
  have cR := fun w1 (hg : Gr w w1) => Lib.hid (nd_rightK v xs w1 (h.gr hg) true ⟨fun _ => hr, fun _ => rfl⟩)
  obtain ⟨A, cap, rfl, hs, h1, h2⟩ := h
  have cB := fun w1 (hg : Gr w w1) => Lib.hid (ki_body A cap xs h1 h2 hl hx w1 (hs.gr hg))
  clear hs hx hr
  generalize slBody (kiErr xs) (xs.map kiB) = dd at *
  obtain ⟨bp, be⟩ := dd
  simp only at cB
  have HW : Hid (Gr w (((w.alloc (.cells #[.bool false, .slice none 0 0, .slice A xs.length cap] 27)).alloc (.cells #[.int .u8 0, .int .u16 0, .int .u32 0, .int .u64 0, .string { data := #[] }] 45)))) := ((Gr.refl w).alloc _).alloc _
  have hr1 := heap_alloc_last (w.alloc (.cells #[.bool false, .slice none 0 0, .slice A xs.length cap] 27)) (.cells #[.int .u8 0, .int .u16 0, .int .u32 0, .int .u64 0, .string { data := #[] }] 45)
  rw [alloc_size] at hr1
  have hr0 := (((Gr.refl (w.alloc (.cells #[.bool false, .slice none 0 0, .slice A xs.length cap] 27))).alloc (.cells #[.int .u8 0, .int .u16 0, .int .u32 0, .int .u64 0, .string { data := #[] }] 45)).block (k := w.heap.size) (by rw [alloc_size]; omega)).trans (heap_alloc_last w (.cells #[.bool false, .slice none 0 0, .slice A xs.length cap] 27))
  have HR := Lib.hid (And.intro hr0 hr1)
  have hw16 : IntKind.u16.wrap ((xs.length : Nat) : Int) = ((xs.length : Nat) : Int) := by unfold IntKind.wrap; simp [IntKind.signed, IntKind.bits]; omega
  clear hr0 hr1
  go_enter Try.func17, Try.ntmps17
  go_wp2_with (go_at_call 50; refine (cR _ HW.out).out.mono ?_; clear cR; rintro r v1 ⟨rfl, hg⟩; have q0 := (hg.block (lt_of_row HR.out.1)).trans HR.out.1; have q1 := (hg.block (lt_of_row HR.out.2)).trans HR.out.2; have HQ := Lib.hid (And.intro (HW.out.trans hg) (And.intro q0 q1)); have n0 := row_cell q0 0 _ rfl; have n1 := row_cell q0 1 _ rfl; have n2 := row_cell q0 2 _ rfl; have m0 := ((Gr.refl v1).alloc (.cells #[.int .u8 3, .int .u16 ((xs.length : Nat) : Int), .int .u32 (id : Nat), .int .u64 (tx : Nat), .string { data := #[] }] 45)).cells n0; have m1 := ((Gr.refl v1).alloc (.cells #[.int .u8 3, .int .u16 ((xs.length : Nat) : Int), .int .u32 (id : Nat), .int .u64 (tx : Nat), .string { data := #[] }] 45)).cells n1; have m2 := ((Gr.refl v1).alloc (.cells #[.int .u8 3, .int .u16 ((xs.length : Nat) : Int), .int .u32 (id : Nat), .int .u64 (tx : Nat), .string { data := #[] }] 45)).cells n2; clear q0 q1 hg)
  have HF : Hid (Gr w (v1.alloc (.cells #[.int .u8 3, .int .u16 ((xs.length : Nat) : Int), .int .u32 (id : Nat), .int .u64 (tx : Nat), .string { data := #[] }] 45)) ∧ (v1.alloc (.cells #[.int .u8 3, .int .u16 ((xs.length : Nat) : Int), .int .u32 (id : Nat), .int .u64 (tx : Nat), .string { data := #[] }] 45)).heap[w.heap.size]? = some (.cells #[.bool false, .slice none 0 0, .slice A xs.length cap] 27 (0, 0)) ∧ (v1.alloc (.cells #[.int .u8 3, .int .u16 ((xs.length : Nat) : Int), .int .u32 (id : Nat), .int .u64 (tx : Nat), .string { data := #[] }] 45)).heap[w.heap.size + 1]? = some (.cells #[.int .u8 0, .int .u16 0, .int .u32 0, .int .u64 0, .string { data := #[] }] 45 (0, 0)) ∧ (v1.alloc (.cells #[.int .u8 3, .int .u16 ((xs.length : Nat) : Int), .int .u32 (id : Nat), .int .u64 (tx : Nat), .string { data := #[] }] 45)).heap[v1.heap.size]? = some (.cells #[.int .u8 3, .int .u16 ((xs.length : Nat) : Int), .int .u32 (id : Nat), .int .u64 (tx : Nat), .string { data := #[] }] 45 (0, 0)) ∧ w.heap.size + 1 < v1.heap.size) := by
    have hG : Gr v1 (v1.alloc (.cells #[.int .u8 3, .int .u16 ((xs.length : Nat) : Int), .int .u32 (id : Nat), .int .u64 (tx : Nat), .string { data := #[] }] 45)) := (Gr.refl v1).alloc _
    exact ⟨HQ.out.1.trans hG, (hG.block (lt_of_row HQ.out.2.1)).trans HQ.out.2.1, (hG.block (lt_of_row HQ.out.2.2)).trans HQ.out.2.2, heap_alloc_last v1 _, lt_of_row HQ.out.2.2⟩
  clear n0 n1 n2 m0 m1 m2
  generalize v1.alloc (.cells #[.int .u8 3, .int .u16 ((xs.length : Nat) : Int), .int .u32 (id : Nat), .int .u64 (tx : Nat), .string { data := #[] }] 45) = U at *
  generalize v1.heap.size = fb at *
  have hne : w.heap.size ≠ fb := by have := HF.out.2.2.2.2; omega
  have HF2 := HF
  clear HF
  generalize U = U2 at *
  have HG2d := Lib.hid HF2.out.1.drew
  have HQ : Hid (U2.cell? ⟨w.heap.size, 2, none⟩ = some (.slice A xs.length cap)) := row_cell HF2.out.2.1 2 _ rfl
  go_wp2
  go_region_held3 (fun w' => w'.cell? ⟨w.heap.size, 2, none⟩ = some (.slice A xs.length cap)) (first | exact HQ.out | (with_reducible exact ((Ch.refl fb _).setCell 4 _).cell hne HQ.out) | assumption)
    (first
      | (go_at_call 40; refine (sl_kids _).mono ?_; rintro r v2 ⟨rfl, hg⟩; have HG2 := Lib.hid ((Gr.refl U2).drew.trans hg); have HQ : Hid (v2.cell? ⟨w.heap.size, 2, none⟩ = some (.slice A xs.length cap)) := HG2.out.cells HQ.out; clear hg)
      | (go_at_call 52; refine (cB _ (HF2.out.1.trans HG2.out)).out.mono ?_; clear cB; rintro r v3 ⟨rfl, hg⟩; have HG3 := Lib.hid (HG2.out.trans hg); have HQ : Hid (v3.cell? ⟨w.heap.size, 2, none⟩ = some (.slice A xs.length cap)) := hg.cells HQ.out; have hf3 := (HG3.out.block (lt_of_row HF2.out.2.2.2.1)).trans HF2.out.2.2.2.1; have f4 := row_cell hf3 4 _ rfl; have z4 := frozen_of_row _ _ 4 _ _ hf3; have HF3 := Lib.hid hf3; clear hg hf3))
  have HU4 : Hid (Gr w (v3.setCell ⟨fb, 4, none⟩ (.string bp)) ∧ (v3.setCell ⟨fb, 4, none⟩ (.string bp)).heap[w.heap.size + 1]? = some (.cells #[.int .u8 0, .int .u16 0, .int .u32 0, .int .u64 0, .string { data := #[] }] 45 (0, 0)) ∧ (v3.setCell ⟨fb, 4, none⟩ (.string bp)).heap[fb]? = some (.cells #[.int .u8 3, .int .u16 ((xs.length : Nat) : Int), .int .u32 (id : Nat), .int .u64 (tx : Nat), .string bp] 45 (0, 0)) ∧ w.heap.size + 1 < fb) := by
    have h5 := HF2.out.2.2.2.2
    exact ⟨((Ch.refl fb v3).setCell 4 _).gr (HF2.out.1.trans HG3.out) (by omega), (heap_setCell_other _ _ _ _ (by show w.heap.size + 1 ≠ fb; omega)).trans ((HG3.out.block (lt_of_row HF2.out.2.2.1)).trans HF2.out.2.2.1), heap_setCell_same _ _ 4 _ _ _ HF3.out, h5⟩
  clear HF2 HG2 HG3 HF3 HQ f4 z4 HG2d
  generalize v3.setCell ⟨fb, 4, none⟩ (.string bp) = U4 at *
  have f0 := row_cell HU4.out.2.2.1 0 _ rfl
  have f1 := row_cell HU4.out.2.2.1 1 _ rfl
  have f2 := row_cell HU4.out.2.2.1 2 _ rfl
  have f3 := row_cell HU4.out.2.2.1 3 _ rfl
  have f4 := row_cell HU4.out.2.2.1 4 _ rfl
  have y0 := row_cell HU4.out.2.1 0 _ rfl
  have y1 := row_cell HU4.out.2.1 1 _ rfl
  have y2 := row_cell HU4.out.2.1 2 _ rfl
  have y3 := row_cell HU4.out.2.1 3 _ rfl
  have y4 := row_cell HU4.out.2.1 4 _ rfl
  have fy0 := frozen_of_row _ _ 0 _ _ HU4.out.2.1
  have fy1 := frozen_of_row _ _ 1 _ _ HU4.out.2.1
  have fy2 := frozen_of_row _ _ 2 _ _ HU4.out.2.1
  have fy3 := frozen_of_row _ _ 3 _ _ HU4.out.2.1
  have fy4 := frozen_of_row _ _ 4 _ _ HU4.out.2.1
  by_cases he : be = 0
  · subst he
    go_wp2
    refine bodyPost_ret (results_cell_tmp_row rfl _ _ (w.heap.size + 1) _ #[.int .u8 3, .int .u16 ((xs.length : Nat) : Int), .int .u32 (id : Nat), .int .u64 (tx : Nat), .string bp] (0, 0) (.struct _) rfl (heap_setCell_same _ _ 4 _ _ (.string bp) (heap_setCell_same _ _ 3 _ _ (.int .u64 (tx : Nat)) (heap_setCell_same _ _ 2 _ _ (.int .u32 (id : Nat)) (heap_setCell_same _ _ 1 _ _ (.int .u16 ((xs.length : Nat) : Int)) (heap_setCell_same _ _ 0 _ _ (.int .u8 3) HU4.out.2.1))))) Try.underlying45 rfl (by kernel_rfl)) rfl ⟨by unfold ndFr; rw [if_pos rfl]; rfl, ((((((Ch.refl (w.heap.size + 1) U4).setCell 0 (.int .u8 3)).setCell 1 (.int .u16 ((xs.length : Nat) : Int))).setCell 2 (.int .u32 (id : Nat))).setCell 3 (.int .u64 (tx : Nat))).setCell 4 (.string bp)).gr HU4.out.1 (Nat.le_succ _)⟩
  · have heb : (be != 0) = true := by simp [he]
    go_wp2
    refine bodyPost_ret (results_cell_tmp_row rfl _ _ (w.heap.size + 1) _ #[.int .u8 0, .int .u16 0, .int .u32 0, .int .u64 0, .string { data := #[] }] (0, 0) (.struct _) rfl (heap_setCell_same _ _ 4 _ _ (.string { data := #[] }) (heap_setCell_same _ _ 3 _ _ (.int .u64 0) (heap_setCell_same _ _ 2 _ _ (.int .u32 0) (heap_setCell_same _ _ 1 _ _ (.int .u16 0) (heap_setCell_same _ _ 0 _ _ (.int .u8 0) HU4.out.2.1))))) Try.underlying45 rfl (by kernel_rfl)) rfl ⟨by unfold ndFr; rw [if_neg he]; rfl, ((((((Ch.refl (w.heap.size + 1) U4).setCell 0 (.int .u8 0)).setCell 1 (.int .u16 0)).setCell 2 (.int .u32 0)).setCell 3 (.int .u64 0)).setCell 4 (.string { data := #[] })).gr HU4.out.1 (Nat.le_succ _)⟩
theorem nd_frameKN (v : Value) (xs : List Ki) (id tx : Nat) (w : World) (h : KiAt w v xs) (hr : ¬ (xs ≠ [] ∧ hdK0 xs = .empty ∧ ¬ kiLow xs)) :
    Calls Try.prog 17 #[v, .int .u32 (id : Nat), .int .u64 (tx : Nat)] w fun r w' => r = .returned (.tuple #[.agg #[.int .u8 0, .int .u16 0, .int .u32 0, .int .u64 0, .string { data := #[] }], .int .i64 4]) ∧ Gr w w' := by
  have cR := fun w1 (hg : Gr w w1) => Lib.hid (nd_rightK v xs w1 (h.gr hg) false ⟨fun h => (by cases h), fun h => absurd h hr⟩)
  obtain ⟨A, cap, rfl, hs, h1, h2⟩ := h
  clear hs hr
  have HW : Hid (Gr w ((w.alloc (.cells #[.bool false, .slice none 0 0, .slice A xs.length cap] 27)).alloc (.cells #[.int .u8 0, .int .u16 0, .int .u32 0, .int .u64 0, .string { data := #[] }] 45))) := ((Gr.refl w).alloc _).alloc _
  have hr1 := heap_alloc_last (w.alloc (.cells #[.bool false, .slice none 0 0, .slice A xs.length cap] 27)) (.cells #[.int .u8 0, .int .u16 0, .int .u32 0, .int .u64 0, .string { data := #[] }] 45)
  rw [alloc_size] at hr1
  have HR := Lib.hid hr1
  clear hr1
  go_enter Try.func17, Try.ntmps17
  go_wp2_with (go_at_call 50; refine (cR _ HW.out).out.mono ?_; clear cR; rintro r v1 ⟨rfl, hg⟩; have hr1 := (hg.block (lt_of_row HR.out)).trans HR.out; have HV := Lib.hid (And.intro (HW.out.trans hg) hr1); have y0 := row_cell hr1 0 _ rfl; have y1 := row_cell hr1 1 _ rfl; have y2 := row_cell hr1 2 _ rfl; have y3 := row_cell hr1 3 _ rfl; have y4 := row_cell hr1 4 _ rfl; have fy0 := frozen_of_row _ _ 0 _ _ hr1; have fy1 := frozen_of_row _ _ 1 _ _ hr1; have fy2 := frozen_of_row _ _ 2 _ _ hr1; have fy3 := frozen_of_row _ _ 3 _ _ hr1; have fy4 := frozen_of_row _ _ 4 _ _ hr1; clear hg hr1)
  refine bodyPost_ret (results_cell_tmp_row rfl _ _ (w.heap.size + 1) _ #[.int .u8 0, .int .u16 0, .int .u32 0, .int .u64 0, .string { data := #[] }] (0, 0) (.struct _) rfl (heap_setCell_same _ _ 4 _ _ (.string { data := #[] }) (heap_setCell_same _ _ 3 _ _ (.int .u64 0) (heap_setCell_same _ _ 2 _ _ (.int .u32 0) (heap_setCell_same _ _ 1 _ _ (.int .u16 0) (heap_setCell_same _ _ 0 _ _ (.int .u8 0) HV.out.2))))) Try.underlying45 rfl (by kernel_rfl)) rfl ⟨rfl, ((((((Ch.refl (w.heap.size + 1) v1).setCell 0 (.int .u8 0)).setCell 1 (.int .u16 0)).setCell 2 (.int .u32 0)).setCell 3 (.int .u64 0)).setCell 4 (.string { data := #[] })).gr HV.out.1 (Nat.le_succ _)⟩
end Go.Proofs.Ytmpmfgkabjedpaa
