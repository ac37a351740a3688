/- Layer 10: the document's word on whether a node may be. -/
import Derived.Test.YtmpmfgkabjedpaaMgDo08
import Derived.Test.YtmpmfgkabjedpaaMgDo14
import Derived.Test.YtmpmfgkabjedpaaMgDo19
namespace Go.Proofs.Ytmpmfgkabjedpaa
open Go.RowKit
set_option linter.unusedVariables false
set_option linter.unusedSimpArgs false
set_option maxRecDepth 100000
set_option maxHeartbeats 2000000
theorem rf_rightL (v : Value) (zs : List Ce) (w : World) (h : RfAt w true v zs) :
    Calls Try.prog 53 #[v] w fun r w' => r = .returned (.bool true) ∧ Gr w w' := by
  obtain ⟨A, cap, rfl, hs, h1, h2⟩ := h
  have HW : Hid (Gr w (w.alloc (.cells #[.bool true, .slice A zs.length cap] 32))) := (Gr.refl w).alloc _
  clear hs
  go_enter Try.func53, Try.ntmps53
  go_wp2
  go_ret
  exact ⟨rfl, HW.out⟩
def hdC0 (zs : List Ce) : ByteArray := match zs with | [] => .empty | z :: _ => z.1
theorem rf_rightK (v : Value) (zs : List Ce) (w : World) (h : RfAt w false v zs) (b : Bool) (hb : b = true ↔ (zs ≠ [] ∧ hdC0 zs = .empty ∧ ∀ z ∈ zs, 2 ≤ z.2.2.1)) :
    Calls Try.prog 53 #[v] w fun r w' => r = .returned (.bool b) ∧ Gr w w' := by
  obtain ⟨A, cap, rfl, hs, h1, h2⟩ := h
  have HW : Hid (Gr w (w.alloc (.cells #[.bool false, .slice A zs.length cap] 32))) := (Gr.refl w).alloc _
  unfold maxLen at h2
  by_cases hy : zs = []
  · subst hy
    obtain rfl : b = false := by
      cases b with
      | false => rfl
      | true => exact absurd rfl (hb.1 rfl).1
    clear hb hs
    simp only [List.length_nil] at *
    go_enter Try.func53, Try.ntmps53
    go_wp2
    go_ret
    exact ⟨rfl, HW.out⟩
  · have HS := Lib.hid hs
    obtain ⟨y, yt, hz⟩ := List.exists_cons_of_ne_nil hy
    rcases hs with h0 | ⟨a, off, rfl, hcell⟩
    · exact absurd h0 hy
    have k0 := HW.out.cells (hcell 0 y (by rw [hz]; rfl) 0 _ rfl)
    simp only [Nat.zero_mul, Nat.add_zero] at k0
    have hd : hdC0 zs = y.1 := by rw [hz]; rfl
    have hn0 : 0 < zs.length := List.length_pos_iff.2 hy
    have hn1 : (0 : Int) < ((zs.length : Nat) : Int) := by omega
    have hn2 : ¬ ((zs.length : Nat) : Int) = 0 := by omega
    have hn3 : (((zs.length : Nat) : Int) == 0) = false := beq_eq_false_iff_ne.2 hn2
    have HC := Lib.hid hcell
    have HB := Lib.hid hb
    have HY := Lib.hid hy
    clear hcell hy hb hz
    by_cases hk : y.1 = .empty
    · have hk2 : y.1.toList.isEmpty = true := by rw [hk, ByteArray.toList_eq]; rfl
      have HD : Hid (hdC0 zs = .empty) := hd.trans hk
      clear hd hk
      go_enter Try.func53, Try.ntmps53
      go_wp2
      clear k0 hk2 hn0 hn1 hn2 hn3
      generalize hW0 : w.alloc (.cells #[.bool false, .slice (some ⟨a, off, none⟩) zs.length cap] 32) = W0 at *
      clear hW0
      go_loopw [22] (fun i wr => ∃ k : Nat, k ≤ zs.length ∧ i = .int .i64 (k : Nat) ∧ Hid (Gr w wr ∧ ∀ z ∈ zs.take k, 2 ≤ z.2.2.1)) (fun i _ => zs.length - (intOf i).toNat)
      case atStart => exact ⟨0, by omega, rfl, HW.out, fun z hz => by simp at hz⟩
      case round =>
        obtain ⟨k, hk, rfl, HR⟩ := hrel
        by_cases hlt : k < zs.length
        · have hget := List.getElem?_eq_getElem hlt
          have htk : ∀ y, zs[k] = y → 2 ≤ y.2.2.1 → ∀ z ∈ zs.take (k + 1), 2 ≤ z.2.2.1 := by
            intro y hy h2 z hz
            rw [List.take_succ_eq_append_getElem hlt] at hz
            rcases List.mem_append.1 hz with hz | hz
            · exact HR.out.2 z hz
            · simp only [List.mem_singleton] at hz; subst hz; rw [hy]; exact h2
          have hlow : ∀ y, zs[k] = y → ¬ 2 ≤ y.2.2.1 → ¬ ∀ z ∈ zs, 2 ≤ z.2.2.1 := fun y hy h2 h => h2 (by rw [← hy]; exact h _ (List.getElem_mem hlt))
          generalize zs[k] = x at *
          have HTK := Lib.hid (And.intro (htk x rfl) (hlow x rfl))
          clear htk hlow
          obtain ⟨e0, e1, e2, e3⟩ := x
          have a0 := HR.out.1.cells (HC.out k _ hget 0 _ rfl)
          have a1 := HR.out.1.cells (HC.out k _ hget 1 _ rfl)
          have a2 := HR.out.1.cells (HC.out k _ hget 2 _ rfl)
          have a3 := HR.out.1.cells (HC.out k _ hget 3 _ rfl)
          simp only [Nat.add_zero] at a0
          clear hget
          have HG : Hid (Gr w (wr.alloc (.cells #[.string e0, .string e1, .int .u32 (e2 : Nat), .int .u32 (e3 : Nat)] 59))) := HR.out.1.alloc _
          by_cases h2 : e2 < 2
          · have h2' : (e2 : Int) < 2 := by omega
            have hN := HTK.out.2 (by show ¬ 2 ≤ e2; omega)
            obtain rfl : b = false := by
              cases b with
              | false => rfl
              | true => exact absurd (HB.out.1 rfl).2.2 hN
            clear hN h2
            go_wp2
            go_ret
            exact ⟨rfl, HG.out⟩
          · have h2' : ¬ (e2 : Int) < 2 := by omega
            have hL := HTK.out.1 (by show 2 ≤ e2; omega)
            have HL := Lib.hid hL
            clear hL h2
            go_wp2
            go_roundw
            case rel => exact ⟨k + 1, by omega, by go_num, HG.out, HL.out⟩
            case measure => (simp [intOf]; try omega)
        · obtain rfl : k = zs.length := by omega
          have hall := HR.out.2
          rw [List.take_length] at hall
          obtain rfl : b = true := HB.out.2 ⟨HY.out, HD.out, hall⟩
          clear hall
          go_wp2
          go_ret
          exact ⟨rfl, HR.out.1⟩
    · have hk2 : y.1.toList.isEmpty = false := by
        cases h : y.1.toList.isEmpty with
        | false => rfl
        | true =>
          refine absurd ?_ hk
          rw [ByteArray.toList_eq] at h
          have h3 : y.1.data.toList = [] := by simpa using h
          exact ByteArray.ext (Array.toList_inj.1 h3)
      obtain rfl : b = false := by
        cases b with
        | false => rfl
        | true => exact absurd (hd.symm.trans (HB.out.1 rfl).2.1) hk
      clear hd
      go_enter Try.func53, Try.ntmps53
      go_wp2
      go_ret
      exact ⟨rfl, HW.out⟩
end Go.Proofs.Ytmpmfgkabjedpaa
namespace Go.Proofs.Ytmpmfgkabjedpaa
open Go.RowKit
set_option linter.unusedVariables false
set_option linter.unusedSimpArgs false
set_option maxRecDepth 100000
set_option maxHeartbeats 2000000
theorem rf_frameL (v : Value) (zs : List Ce) (hl : zs.length ≤ 4000) (hx : ∀ x ∈ zs, ceOk x) (id tx : Nat) (w : World) (h : RfAt w true v zs) :
    Calls Try.prog 18 #[v, .int .u32 (id : Nat), .int .u64 (tx : Nat)] w fun r w' => r = .returned (ndFr 2 zs.length id tx (slBody (rcErr true zs) (zs.map (rcB true)))) ∧ Gr w w' := by
  have cR := fun w1 (hg : Gr w w1) => Lib.hid (rf_rightL v zs w1 (h.gr hg))
  obtain ⟨A, cap, rfl, hs, h1, h2⟩ := h
  have cB := fun w1 (hg : Gr w w1) => Lib.hid (rf_body true A cap zs h1 h2 hl hx w1 (hs.gr hg))
  clear hs hx
  generalize slBody (rcErr true zs) (zs.map (rcB true)) = dd at *
  obtain ⟨bp, be⟩ := dd
  simp only at cB
  have hw16 : IntKind.u16.wrap ((zs.length : Nat) : Int) = ((zs.length : Nat) : Int) := by rw [IntKind.wrap_u16]; omega
  have HW : Hid (Gr w ((w.alloc (.cells #[.bool true, .slice A zs.length cap] 32)).alloc (.cells #[.int .u8 0, .int .u16 0, .int .u32 0, .int .u64 0, .string { data := #[] }] 49))) := ((Gr.refl w).alloc _).alloc _
  have hr1 := heap_alloc_last (w.alloc (.cells #[.bool true, .slice A zs.length cap] 32)) (.cells #[.int .u8 0, .int .u16 0, .int .u32 0, .int .u64 0, .string { data := #[] }] 49)
  rw [alloc_size] at hr1
  have hr0 := (((Gr.refl (w.alloc (.cells #[.bool true, .slice A zs.length cap] 32))).alloc (.cells #[.int .u8 0, .int .u16 0, .int .u32 0, .int .u64 0, .string { data := #[] }] 49)).block (k := w.heap.size) (by rw [alloc_size]; omega)).trans (heap_alloc_last w (.cells #[.bool true, .slice A zs.length cap] 32))
  have HR := Lib.hid (And.intro hr0 hr1)
  clear hr0 hr1
  by_cases he : be = 0
  · subst he
    go_enter Try.func18, Try.ntmps18
    go_wp2_with (first
      | (go_at_call 53; refine (cR _ HW.out).out.mono ?_; clear cR; rintro r v1 ⟨rfl, hg⟩; have q0 := (hg.block (lt_of_row HR.out.1)).trans HR.out.1; have q1 := (hg.block (lt_of_row HR.out.2)).trans HR.out.2; have HQ := Lib.hid (And.intro (HW.out.trans hg) (And.intro q0 q1)); have n0 := row_cell q0 0 _ rfl; have n1 := row_cell q0 1 _ rfl; clear q0 q1 hg)
      | (go_at_call 54; refine (cB _ (by first | exact HQ.out.1 | exact HQ.out.1.drew)).out.mono ?_; clear cB; rintro r v2 ⟨rfl, hg⟩; have q0 := (hg.block (lt_of_row HQ.out.2.1)).trans HQ.out.2.1; have q1 := (hg.block (lt_of_row HQ.out.2.2)).trans HQ.out.2.2; have HV := Lib.hid (And.intro (HQ.out.1.trans hg) q1); have m0 := row_cell q0 0 _ rfl; have m1 := row_cell q0 1 _ rfl; have y0 := row_cell q1 0 _ rfl; have y1 := row_cell q1 1 _ rfl; have y2 := row_cell q1 2 _ rfl; have y3 := row_cell q1 3 _ rfl; have y4 := row_cell q1 4 _ rfl; have fy0 := frozen_of_row _ _ 0 _ _ q1; have fy1 := frozen_of_row _ _ 1 _ _ q1; have fy2 := frozen_of_row _ _ 2 _ _ q1; have fy3 := frozen_of_row _ _ 3 _ _ q1; have fy4 := frozen_of_row _ _ 4 _ _ q1; clear q0 q1 hg))
    refine bodyPost_ret (results_cell_tmp_row rfl _ _ (w.heap.size + 1) _ #[.int .u8 2, .int .u16 ((zs.length : Nat) : Int), .int .u32 (id : Nat), .int .u64 (tx : Nat), .string bp] (0, 0) (.struct _) rfl (heap_setCell_same _ _ 4 _ _ (.string bp) (heap_setCell_same _ _ 3 _ _ (.int .u64 (tx : Nat)) (heap_setCell_same _ _ 2 _ _ (.int .u32 (id : Nat)) (heap_setCell_same _ _ 1 _ _ (.int .u16 ((zs.length : Nat) : Int)) (heap_setCell_same _ _ 0 _ _ (.int .u8 2) HV.out.2))))) Try.underlying49 rfl (by kernel_rfl)) rfl ⟨by unfold ndFr; rw [if_pos rfl]; rfl, ((((((Ch.refl (w.heap.size + 1) v2).setCell 0 (.int .u8 2)).setCell 1 (.int .u16 ((zs.length : Nat) : Int))).setCell 2 (.int .u32 (id : Nat))).setCell 3 (.int .u64 (tx : Nat))).setCell 4 (.string bp)).gr HV.out.1 (Nat.le_succ _)⟩
  · have heb : (be != 0) = true := by simp [he]
    go_enter Try.func18, Try.ntmps18
    go_wp2_with (first
      | (go_at_call 53; refine (cR _ HW.out).out.mono ?_; clear cR; rintro r v1 ⟨rfl, hg⟩; have q0 := (hg.block (lt_of_row HR.out.1)).trans HR.out.1; have q1 := (hg.block (lt_of_row HR.out.2)).trans HR.out.2; have HQ := Lib.hid (And.intro (HW.out.trans hg) (And.intro q0 q1)); have n0 := row_cell q0 0 _ rfl; have n1 := row_cell q0 1 _ rfl; clear q0 q1 hg)
      | (go_at_call 54; refine (cB _ (by first | exact HQ.out.1 | exact HQ.out.1.drew)).out.mono ?_; clear cB; rintro r v2 ⟨rfl, hg⟩; have q0 := (hg.block (lt_of_row HQ.out.2.1)).trans HQ.out.2.1; have q1 := (hg.block (lt_of_row HQ.out.2.2)).trans HQ.out.2.2; have HV := Lib.hid (And.intro (HQ.out.1.trans hg) q1); have m0 := row_cell q0 0 _ rfl; have m1 := row_cell q0 1 _ rfl; have y0 := row_cell q1 0 _ rfl; have y1 := row_cell q1 1 _ rfl; have y2 := row_cell q1 2 _ rfl; have y3 := row_cell q1 3 _ rfl; have y4 := row_cell q1 4 _ rfl; have fy0 := frozen_of_row _ _ 0 _ _ q1; have fy1 := frozen_of_row _ _ 1 _ _ q1; have fy2 := frozen_of_row _ _ 2 _ _ q1; have fy3 := frozen_of_row _ _ 3 _ _ q1; have fy4 := frozen_of_row _ _ 4 _ _ q1; clear q0 q1 hg))
    refine bodyPost_ret (results_cell_tmp_row rfl _ _ (w.heap.size + 1) _ #[.int .u8 0, .int .u16 0, .int .u32 0, .int .u64 0, .string { data := #[] }] (0, 0) (.struct _) rfl (heap_setCell_same _ _ 4 _ _ (.string { data := #[] }) (heap_setCell_same _ _ 3 _ _ (.int .u64 0) (heap_setCell_same _ _ 2 _ _ (.int .u32 0) (heap_setCell_same _ _ 1 _ _ (.int .u16 0) (heap_setCell_same _ _ 0 _ _ (.int .u8 0) HV.out.2))))) Try.underlying49 rfl (by kernel_rfl)) rfl ⟨by unfold ndFr; rw [if_neg he]; rfl, ((((((Ch.refl (w.heap.size + 1) v2).setCell 0 (.int .u8 0)).setCell 1 (.int .u16 0)).setCell 2 (.int .u32 0)).setCell 3 (.int .u64 0)).setCell 4 (.string { data := #[] })).gr HV.out.1 (Nat.le_succ _)⟩
end Go.Proofs.Ytmpmfgkabjedpaa
