/- Layer 10: the document's cell put in its place, among rising ones, is the code's. No program in sight. -/
import Derived.Test.YtmpmfgkabjedpaaMgDo06
import Derived.Test.YtmpmfgkabjedpaaMgDo14
import Derived.Test.YtmpmfgkabjedpaaMgDo17
import Derived.Test.YtmpmfgkabjedpaaMgDo35
import Derived.Test.YtmpmfgkabjedpaaMgDo36
namespace Go.Proofs.Ytmpmfgkabjedpaa
open Go.RowKit
set_option linter.unusedVariables false
set_option linter.unusedSimpArgs false
theorem rpK_lo {zs : List Ce} (h : Rises (fun x : Ce => x.1) zs) (c : Ce) : ∀ k, k ≤ fdAt (fun x : Ce => x.1) zs c.1 → rpK c zs k = (zs.take k, false) := by
  have hle := fdAt_le (fun x : Ce => x.1) zs c.1
  intro k
  induction k with
  | zero => intro _; simp [rpK]
  | succ k ih =>
    intro hk
    have hlt : k < zs.length := by omega
    have hget := List.getElem?_eq_getElem hlt
    have h1 := h.at c.1 k _ hget
    rw [decide_eq_true (show k < fdAt (fun x : Ce => x.1) zs c.1 by omega)] at h1
    rw [rpK_step hget, ih (by omega)]
    unfold rpS
    rw [if_neg (fun h2 => by have h3 := h2.2; rw [← h1] at h3; cases h3), List.take_succ_eq_append_getElem hlt]
theorem rpK_hi {zs : List Ce} (h : Rises (fun x : Ce => x.1) zs) (c : Ce) (s : Nat) (hs : s = if fdIs (fun x : Ce => x.1) zs c.1 = true then 1 else 0) : ∀ k, fdAt (fun x : Ce => x.1) zs c.1 < k → k ≤ zs.length → rpK c zs k = (zs.take (fdAt (fun x : Ce => x.1) zs c.1) ++ c :: (zs.drop (fdAt (fun x : Ce => x.1) zs c.1 + s)).take (k - fdAt (fun x : Ce => x.1) zs c.1 - s), true) := by
  intro k
  induction k with
  | zero => intro h0; omega
  | succ k ih =>
    intro hk hkn
    have hlt : k < zs.length := by omega
    have hget := List.getElem?_eq_getElem hlt
    have h1 := h.at c.1 k _ hget
    have h2 := h.is c.1 k _ hget
    rw [rpK_step hget]
    by_cases he : k = fdAt (fun x : Ce => x.1) zs c.1
    · rw [rpK_lo h c k (by omega)]
      rw [decide_eq_false (by omega)] at h1
      rw [decide_eq_true he, Bool.true_and] at h2
      unfold rpS
      rw [if_pos ⟨rfl, h1.symm⟩]
      have h5 : (c.1.toList == zs[k].1.toList) = fdIs (fun x : Ce => x.1) zs c.1 := by
        rw [h2, Bool.eq_iff_iff, beq_iff_eq, beq_iff_eq]
        exact ⟨fun h => h.symm, fun h => h.symm⟩
      rw [h5, ← he]
      cases hi : fdIs (fun x : Ce => x.1) zs c.1 with
      | true =>
        rw [hi, if_pos rfl] at hs
        subst hs
        rw [if_pos rfl, show k + 1 - k - 1 = 0 by omega, List.take_zero]
      | false =>
        rw [hi, if_neg (by decide)] at hs
        subst hs
        have e9 : (zs.drop k).take 1 = [zs[k]] := by rw [List.drop_eq_getElem_cons hlt]; rfl
        rw [if_neg (by decide), show k + 1 - k - 0 = 1 by omega, Nat.add_zero, e9, List.append_assoc]
        rfl
    · have hs1 : s ≤ 1 := by rw [hs]; split <;> omega
      rw [ih (by omega) (by omega)]
      unfold rpS
      rw [if_neg (fun h2 => by cases h2.1)]
      have hj : k - fdAt (fun x : Ce => x.1) zs c.1 - s < (zs.drop (fdAt (fun x : Ce => x.1) zs c.1 + s)).length := by rw [List.length_drop]; omega
      have e1 : k + 1 - fdAt (fun x : Ce => x.1) zs c.1 - s = (k - fdAt (fun x : Ce => x.1) zs c.1 - s) + 1 := by omega
      have e2 : fdAt (fun x : Ce => x.1) zs c.1 + s + (k - fdAt (fun x : Ce => x.1) zs c.1 - s) = k := by omega
      rw [e1, List.take_succ_eq_append_getElem hj, List.getElem_drop]
      simp only [e2, List.append_assoc, List.cons_append]
theorem rp_plc {zs : List Ce} (h : Rises (fun x : Ce => x.1) zs) (c : Ce) : rpE c zs = plc (fun x : Ce => x.1) zs c := by
  have hle := fdAt_le (fun x : Ce => x.1) zs c.1
  unfold rpE plc
  by_cases hlt : fdAt (fun x : Ce => x.1) zs c.1 < zs.length
  · rw [rpK_hi h c _ rfl zs.length hlt (Nat.le_refl _), if_pos rfl]
    have e : ∀ s, (zs.drop (fdAt (fun x : Ce => x.1) zs c.1 + s)).take (zs.length - fdAt (fun x : Ce => x.1) zs c.1 - s) = zs.drop (fdAt (fun x : Ce => x.1) zs c.1 + s) := fun s => List.take_of_length_le (by rw [List.length_drop]; omega)
    simp only [e]
    split
    · rw [List.set_eq_take_append_cons_drop, if_pos hlt]
    · simp
  · have he : fdAt (fun x : Ce => x.1) zs c.1 = zs.length := by omega
    have hi : fdIs (fun x : Ce => x.1) zs c.1 = false := by
      unfold fdIs
      rw [he, List.getElem?_eq_none (Nat.le_refl _)]
    rw [rpK_lo h c zs.length (by omega), if_neg (fun h => by cases h), hi, if_neg (by decide), he]
    simp
end Go.Proofs.Ytmpmfgkabjedpaa
namespace Go.Proofs.Ytmpmfgkabjedpaa
open Go.RowKit
set_option linter.unusedVariables false
set_option linter.unusedSimpArgs false
set_option maxRecDepth 100000
set_option maxHeartbeats 2000000
/-- the last place, of the first k, whose key isn't above -/
def rtK (zs : List Ce) (key : ByteArray) : Nat → Nat
  | 0 => 0
  | k + 1 => match zs[k]? with
    | some x => if Op.bytesLess key.toList x.1.toList = false then k else rtK zs key k
    | none => rtK zs key k
theorem rtK_yes {zs : List Ce} {key : ByteArray} {k : Nat} {x : Ce} (h : zs[k]? = some x) (hb : Op.bytesLess key.toList x.1.toList = false) : rtK zs key (k + 1) = k := by
  show (match zs[k]? with | some x => if Op.bytesLess key.toList x.1.toList = false then k else rtK zs key k | none => rtK zs key k) = k
  rw [h]
  exact if_pos hb
theorem rtK_no {zs : List Ce} {key : ByteArray} {k : Nat} {x : Ce} (h : zs[k]? = some x) (hb : Op.bytesLess key.toList x.1.toList = true) : rtK zs key (k + 1) = rtK zs key k := by
  show (match zs[k]? with | some x => if Op.bytesLess key.toList x.1.toList = false then k else rtK zs key k | none => rtK zs key k) = rtK zs key k
  rw [h]
  exact if_neg (by rw [hb]; decide)
theorem rf_routeK (v : Value) (zs : List Ce) (hl : zs.length ≤ 4000) (key : ByteArray) (w : World) (h : RfAt w false v zs) :
    Calls Try.prog 34 #[v, .string key] w fun r w' => r = .returned (.int .i64 ((rtK zs key zs.length : Nat) : Int)) ∧ Gr w w' := by
  obtain ⟨A, cap, rfl, hs, h1, h2⟩ := h
  have HS := Lib.hid hs
  clear hs
  have HW : Hid (Gr w (w.alloc (.cells #[.bool false, .slice A zs.length cap] 32)) ∧ (w.alloc (.cells #[.bool false, .slice A zs.length cap] 32)).heap[w.heap.size]? = some (.cells #[.bool false, .slice A zs.length cap] 32 (0, 0))) := ⟨(Gr.refl w).alloc _, heap_alloc_last w _⟩
  obtain ⟨rr, hrr⟩ : ∃ rr, rr = rtK zs key zs.length := ⟨_, rfl⟩
  rw [← hrr]
  have HRR := Lib.hid hrr
  clear hrr
  go_enter Try.func34, Try.ntmps34
  go_wp2
  have n0 := row_cell HW.out.2 0 _ rfl
  generalize w.alloc (.cells #[.bool false, .slice A zs.length cap] 32) = W0 at *
  generalize w.heap.size = g at *
  have HN := Lib.hid n0
  clear n0
  go_loopw [11, 5] (fun i at_ wr => ∃ k : Nat, k ≤ zs.length ∧ i = .int .i64 (k : Nat) ∧ at_ = .int .i64 ((rtK zs key k : Nat) : Int) ∧ Hid (Gr w wr ∧ Gr W0 wr)) (fun i _ _ => zs.length - (intOf i).toNat)
  case atStart => exact ⟨0, by omega, rfl, rfl, HW.out.1, Gr.refl _⟩
  case round =>
    obtain ⟨k, hk, rfl, rfl, HR⟩ := hrel
    by_cases hlt : k < zs.length
    · rcases HS.out with h0 | ⟨a, off, rfl, hcell⟩
      · subst h0; simp at hlt
      have hget := List.getElem?_eq_getElem hlt
      generalize zs[k] = x at *
      obtain ⟨e0, e1, e2, e3⟩ := x
      have a0 := HR.out.1.cells (hcell k _ hget 0 _ rfl)
      have a1 := HR.out.1.cells (hcell k _ hget 1 _ rfl)
      have a2 := HR.out.1.cells (hcell k _ hget 2 _ rfl)
      have a3 := HR.out.1.cells (hcell k _ hget 3 _ rfl)
      simp only [Nat.add_zero] at a0
      have n0 := ((HR.out.2).alloc (.cells #[.string e0, .string e1, .int .u32 (e2 : Nat), .int .u32 (e3 : Nat)] 59)).cells HN.out
      clear hcell
      have HG : Hid (Gr w (wr.alloc (.cells #[.string e0, .string e1, .int .u32 (e2 : Nat), .int .u32 (e3 : Nat)] 59)) ∧ Gr W0 (wr.alloc (.cells #[.string e0, .string e1, .int .u32 (e2 : Nat), .int .u32 (e3 : Nat)] 59))) := ⟨HR.out.1.alloc _, HR.out.2.alloc _⟩
      cases hb : Op.bytesLess key.toList e0.toList with
      | false =>
        have ht : (Op.bytesLess e0.toList key.toList || e0.toList == key.toList) = true := by rw [bl_total, hb]; rfl
        have hs1 := rtK_yes (key := key) hget hb
        have HS1 := Lib.hid hs1
        clear hs1 hget
        go_wp2
        go_roundw
        case rel => exact ⟨k + 1, by omega, by go_num, by rw [HS1.out], HG.out⟩
        case measure => (simp [intOf]; try omega)
      | true =>
        have ht : (Op.bytesLess e0.toList key.toList || e0.toList == key.toList) = false := by rw [bl_total, hb]; rfl
        have hs1 := rtK_no (key := key) hget hb
        have HS1 := Lib.hid hs1
        clear hs1 hget
        generalize rtK zs key k = r0 at *
        go_wp2
        go_roundw
        case rel => exact ⟨k + 1, by omega, by go_num, by rw [HS1.out], HG.out⟩
        case measure => (simp [intOf]; try omega)
    · obtain rfl : k = zs.length := by omega
      have hr2 := HRR.out
      rw [← hr2]
      clear hr2
      go_wp2
      go_ret
      exact ⟨rfl, HR.out.1⟩
end Go.Proofs.Ytmpmfgkabjedpaa
namespace Go.Proofs.Ytmpmfgkabjedpaa
open Go.RowKit
set_option linter.unusedVariables false
set_option linter.unusedSimpArgs false
theorem rtK_eq {ys : List Ki} (h : Rises (fun x : Ki => x.1) ys) (key : ByteArray) (c : Nat) (hc : c = fdAt (fun x : Ki => x.1) ys key + (if fdIs (fun x : Ki => x.1) ys key = true then 1 else 0)) : ∀ k, k ≤ ys.length → rtK (ys.map ceOf) key k = min k c - 1 := by
  intro k
  induction k with
  | zero => intro _; simp [rtK]
  | succ k ih =>
    intro hk
    have hlt : k < ys.length := by omega
    have hget := List.getElem?_eq_getElem hlt
    have hz : (ys.map ceOf)[k]? = some (ceOf ys[k]) := by rw [List.getElem?_map, hget]; rfl
    have h1 := h.at key k _ hget
    have h2 := h.is key k _ hget
    have h3 := bl_total key.toList (ys[k]).1.toList
    rw [← h1, ← h2] at h3
    have h4 : (ceOf ys[k]).1 = (ys[k]).1 := rfl
    cases hb : Op.bytesLess key.toList (ceOf ys[k]).1.toList with
    | false =>
      rw [rtK_yes hz hb]
      rw [h4] at hb
      rw [hb] at h3
      simp only [Bool.not_false, Bool.or_eq_true, decide_eq_true_eq, Bool.and_eq_true] at h3
      have : k < c := by
        rcases h3 with h3 | ⟨h3, h5⟩
        · omega
        · rw [hc, if_pos h5]; omega
      omega
    | true =>
      rw [rtK_no hz hb, ih (by omega)]
      rw [h4] at hb
      rw [hb] at h3
      simp only [Bool.not_true, Bool.or_eq_false_iff, decide_eq_false_iff_not, Bool.and_eq_false_iff] at h3
      have : c ≤ k := by
        rcases h3 with ⟨h3, h5⟩
        cases hi : fdIs (fun x : Ki => x.1) ys key with
        | false => rw [hc, hi]; simp; omega
        | true =>
          rw [hi] at h5
          have h6 : ¬ k = fdAt (fun x : Ki => x.1) ys key := by
            rcases h5 with h5 | h5
            · exact h5
            · cases h5
          rw [hc, hi, if_pos rfl]; omega
      omega
theorem rt_same {ys : List Ki} (h : Rises (fun x : Ki => x.1) ys) (key : ByteArray) : rtK (ys.map ceOf) key (ys.map ceOf).length = rtAt ys key := by
  have hle := fdAt_le (fun x : Ki => x.1) ys key
  have hlt : fdIs (fun x : Ki => x.1) ys key = true → fdAt (fun x : Ki => x.1) ys key < ys.length := by
    intro h
    unfold fdIs at h
    rcases Nat.lt_or_ge (fdAt (fun x : Ki => x.1) ys key) ys.length with h1 | h1
    · exact h1
    · rw [List.getElem?_eq_none h1] at h; cases h
  rw [List.length_map, rtK_eq h key _ rfl ys.length (Nat.le_refl _)]
  unfold rtAt
  split
  · rename_i hi
    have := hlt hi
    omega
  · omega
end Go.Proofs.Ytmpmfgkabjedpaa
namespace Go.Proofs.Ytmpmfgkabjedpaa
open Go.RowKit
set_option linter.unusedVariables false
set_option linter.unusedSimpArgs false
set_option maxRecDepth 100000
set_option maxHeartbeats 2000000
theorem ki_put (v : Value) (xs : List Ki) (a0 a1 : ByteArray) (a2 a3 : Nat) (w : World) (h : KiAt w v xs) :
    Calls Try.prog 28 #[v, .agg #[.string a0, .string a1, .int .u32 (a2 : Nat), .int .u32 (a3 : Nat)]] w fun r w' => r = .returned v ∧ Gr w w' := by
  obtain ⟨A, cap, rfl, hs, h1, h2⟩ := h
  clear hs
  obtain ⟨_, _, r2⟩ := heap_alloc3 w (.cells #[.bool false, .slice none 0 0, .slice A xs.length cap] 27) (.cells #[.string a0, .string a1, .int .u32 (a2 : Nat), .int .u32 (a3 : Nat)] 59) (.cells #[.bool false, .slice none 0 0, .slice A xs.length cap] 27)
  go_enter Try.func28, Try.ntmps28
  go_wp2
  refine bodyPost_ret (results_cell_row rfl _ _ (w.heap.size + 1 + 1) _ #[.bool false, .slice none 0 0, .slice A xs.length cap] (0, 0) (.struct _) rfl r2 Try.underlying27 rfl (by kernel_rfl)) rfl ⟨rfl, (((Gr.refl w).alloc _).alloc _).alloc _⟩
theorem lf_insert_stay (v : Value) (xs : List Ce) (a0 : ByteArray) (a1 : Nat) (w : World) (h : LfAt w v xs) :
    Calls Try.prog 31 #[v, .agg #[.string a0, .int .u32 (a1 : Nat)]] w fun r w' => r = .returned v ∧ Gr w w' := by
  obtain ⟨A, cap, rfl, hs, h1, h2⟩ := h
  clear hs
  obtain ⟨_, _, r2⟩ := heap_alloc3 w (.cells #[.bool true, .slice A xs.length cap, .slice none 0 0] 27) (.cells #[.string a0, .int .u32 (a1 : Nat)] 61) (.cells #[.bool true, .slice A xs.length cap, .slice none 0 0] 27)
  go_enter Try.func31, Try.ntmps31
  go_wp2
  refine bodyPost_ret (results_cell_row rfl _ _ (w.heap.size + 1 + 1) _ #[.bool true, .slice A xs.length cap, .slice none 0 0] (0, 0) (.struct _) rfl r2 Try.underlying27 rfl (by kernel_rfl)) rfl ⟨rfl, (((Gr.refl w).alloc _).alloc _).alloc _⟩
theorem lf_turn (v : Value) (xs : List Ce) (at_ : Int) (page : Nat) (w : World) (h : LfAt w v xs) :
    Calls Try.prog 30 #[v, .int .i64 at_, .int .u32 (page : Nat)] w fun r w' => r = .returned v ∧ Gr w w' := by
  have cH := fun w1 (hg : Gr w w1) => Lib.hid (lf_has v xs at_ w1 (h.gr hg))
  obtain ⟨A, cap, rfl, hs, h1, h2⟩ := h
  clear hs
  obtain ⟨_, r0, r2⟩ := pl_world w #[.bool true, .slice A xs.length cap, .slice none 0 0] #[.bool false, .slice none 0 0, .slice none 0 0] 27 27
  have HU : Hid (Gr w ((w.alloc (.cells #[.bool true, .slice A xs.length cap, .slice none 0 0] 27)).alloc (.cells #[.bool false, .slice none 0 0, .slice none 0 0] 27)) ∧ ((w.alloc (.cells #[.bool true, .slice A xs.length cap, .slice none 0 0] 27)).alloc (.cells #[.bool false, .slice none 0 0, .slice none 0 0] 27)).heap[w.heap.size]? = some (.cells #[.bool true, .slice A xs.length cap, .slice none 0 0] 27 (0, 0)) ∧ ((w.alloc (.cells #[.bool true, .slice A xs.length cap, .slice none 0 0] 27)).alloc (.cells #[.bool false, .slice none 0 0, .slice none 0 0] 27)).heap[w.heap.size + 1]? = some (.cells #[.bool false, .slice none 0 0, .slice none 0 0] 27 (0, 0))) := ⟨((Gr.refl w).alloc _).alloc _, r0, r2⟩
  clear r0 r2
  go_enter Try.func30, Try.ntmps30
  go_wp2_with (go_at_call 63; refine (cH _ HU.out.1).out.mono ?_; clear cH; rintro r v1 ⟨rfl, hg⟩; have HV := Lib.hid (And.intro (HU.out.1.trans hg) (And.intro ((hg.block (lt_of_row HU.out.2.1)).trans HU.out.2.1) ((hg.block (lt_of_row HU.out.2.2)).trans HU.out.2.2))); have n0 := row_cell HV.out.2.1 0 _ rfl; have n1 := row_cell HV.out.2.1 1 _ rfl; have n2 := row_cell HV.out.2.1 2 _ rfl; have y0 := row_cell HV.out.2.2 0 _ rfl; have fy0 := frozen_of_row _ _ 0 _ _ HV.out.2.2; have y1 := row_cell HV.out.2.2 1 _ rfl; have fy1 := frozen_of_row _ _ 1 _ _ HV.out.2.2; have y2 := row_cell HV.out.2.2 2 _ rfl; have fy2 := frozen_of_row _ _ 2 _ _ HV.out.2.2; clear hg)
  refine bodyPost_ret (results_cell_row rfl _ _ (w.heap.size + 1) _ #[.bool true, .slice A xs.length cap, .slice none 0 0] (0, 0) (.struct _) rfl (heap_setCell_same _ _ 2 _ _ (.slice none 0 0) (heap_setCell_same _ _ 1 _ _ (.slice A xs.length cap) (heap_setCell_same _ _ 0 _ _ (.bool true) HV.out.2.2))) Try.underlying27 rfl (by kernel_rfl)) rfl ⟨rfl, ((((Ch.refl (w.heap.size + 1) v1).setCell 0 (.bool true)).setCell 1 (.slice A xs.length cap)).setCell 2 (.slice none 0 0)).gr HV.out.1 (by omega)⟩
theorem lf_remove (v : Value) (xs : List Ce) (at_ : Int) (w : World) (h : LfAt w v xs) :
    Calls Try.prog 32 #[v, .int .i64 at_] w fun r w' => r = .returned v ∧ Gr w w' := by
  have cH := fun w1 (hg : Gr w w1) => Lib.hid (lf_has v xs at_ w1 (h.gr hg))
  obtain ⟨A, cap, rfl, hs, h1, h2⟩ := h
  clear hs
  obtain ⟨_, r0, r2⟩ := pl_world w #[.bool true, .slice A xs.length cap, .slice none 0 0] #[.bool false, .slice none 0 0, .slice none 0 0] 27 27
  have HU : Hid (Gr w ((w.alloc (.cells #[.bool true, .slice A xs.length cap, .slice none 0 0] 27)).alloc (.cells #[.bool false, .slice none 0 0, .slice none 0 0] 27)) ∧ ((w.alloc (.cells #[.bool true, .slice A xs.length cap, .slice none 0 0] 27)).alloc (.cells #[.bool false, .slice none 0 0, .slice none 0 0] 27)).heap[w.heap.size]? = some (.cells #[.bool true, .slice A xs.length cap, .slice none 0 0] 27 (0, 0)) ∧ ((w.alloc (.cells #[.bool true, .slice A xs.length cap, .slice none 0 0] 27)).alloc (.cells #[.bool false, .slice none 0 0, .slice none 0 0] 27)).heap[w.heap.size + 1]? = some (.cells #[.bool false, .slice none 0 0, .slice none 0 0] 27 (0, 0))) := ⟨((Gr.refl w).alloc _).alloc _, r0, r2⟩
  clear r0 r2
  go_enter Try.func32, Try.ntmps32
  go_wp2_with (go_at_call 63; refine (cH _ HU.out.1).out.mono ?_; clear cH; rintro r v1 ⟨rfl, hg⟩; have HV := Lib.hid (And.intro (HU.out.1.trans hg) (And.intro ((hg.block (lt_of_row HU.out.2.1)).trans HU.out.2.1) ((hg.block (lt_of_row HU.out.2.2)).trans HU.out.2.2))); have n0 := row_cell HV.out.2.1 0 _ rfl; have n1 := row_cell HV.out.2.1 1 _ rfl; have n2 := row_cell HV.out.2.1 2 _ rfl; have y0 := row_cell HV.out.2.2 0 _ rfl; have fy0 := frozen_of_row _ _ 0 _ _ HV.out.2.2; have y1 := row_cell HV.out.2.2 1 _ rfl; have fy1 := frozen_of_row _ _ 1 _ _ HV.out.2.2; have y2 := row_cell HV.out.2.2 2 _ rfl; have fy2 := frozen_of_row _ _ 2 _ _ HV.out.2.2; clear hg)
  refine bodyPost_ret (results_cell_row rfl _ _ (w.heap.size + 1) _ #[.bool true, .slice A xs.length cap, .slice none 0 0] (0, 0) (.struct _) rfl (heap_setCell_same _ _ 2 _ _ (.slice none 0 0) (heap_setCell_same _ _ 1 _ _ (.slice A xs.length cap) (heap_setCell_same _ _ 0 _ _ (.bool true) HV.out.2.2))) Try.underlying27 rfl (by kernel_rfl)) rfl ⟨rfl, ((((Ch.refl (w.heap.size + 1) v1).setCell 0 (.bool true)).setCell 1 (.slice A xs.length cap)).setCell 2 (.slice none 0 0)).gr HV.out.1 (by omega)⟩
theorem ki_turn_stay (v : Value) (xs : List Ki) (hl : xs.length ≤ 4000) (at_ : Int) (hat : I64 at_) (hno : ¬ (0 ≤ at_ ∧ at_ < (xs.length : Int))) (page : Nat) (w : World) (h : KiAt w v xs) :
    Calls Try.prog 30 #[v, .int .i64 at_, .int .u32 (page : Nat)] w fun r w' => r = .returned v ∧ Gr w w' := by
  have cH := fun w1 (hg : Gr w w1) => Lib.hid (ki_has v xs hl at_ hat w1 (h.gr hg))
  rw [decide_eq_false hno] at cH
  obtain ⟨A, cap, rfl, hs, h1, h2⟩ := h
  clear hs
  obtain ⟨_, r0, r2⟩ := pl_world w #[.bool false, .slice none 0 0, .slice A xs.length cap] #[.bool false, .slice none 0 0, .slice none 0 0] 27 27
  have HU : Hid (Gr w ((w.alloc (.cells #[.bool false, .slice none 0 0, .slice A xs.length cap] 27)).alloc (.cells #[.bool false, .slice none 0 0, .slice none 0 0] 27)) ∧ ((w.alloc (.cells #[.bool false, .slice none 0 0, .slice A xs.length cap] 27)).alloc (.cells #[.bool false, .slice none 0 0, .slice none 0 0] 27)).heap[w.heap.size]? = some (.cells #[.bool false, .slice none 0 0, .slice A xs.length cap] 27 (0, 0)) ∧ ((w.alloc (.cells #[.bool false, .slice none 0 0, .slice A xs.length cap] 27)).alloc (.cells #[.bool false, .slice none 0 0, .slice none 0 0] 27)).heap[w.heap.size + 1]? = some (.cells #[.bool false, .slice none 0 0, .slice none 0 0] 27 (0, 0))) := ⟨((Gr.refl w).alloc _).alloc _, r0, r2⟩
  clear r0 r2
  go_enter Try.func30, Try.ntmps30
  go_wp2_with (go_at_call 63; refine (cH _ HU.out.1).out.mono ?_; clear cH; rintro r v1 ⟨rfl, hg⟩; have HV := Lib.hid (And.intro (HU.out.1.trans hg) (And.intro ((hg.block (lt_of_row HU.out.2.1)).trans HU.out.2.1) ((hg.block (lt_of_row HU.out.2.2)).trans HU.out.2.2))); have n0 := row_cell HV.out.2.1 0 _ rfl; have n1 := row_cell HV.out.2.1 1 _ rfl; have n2 := row_cell HV.out.2.1 2 _ rfl; have y0 := row_cell HV.out.2.2 0 _ rfl; have fy0 := frozen_of_row _ _ 0 _ _ HV.out.2.2; have y1 := row_cell HV.out.2.2 1 _ rfl; have fy1 := frozen_of_row _ _ 1 _ _ HV.out.2.2; have y2 := row_cell HV.out.2.2 2 _ rfl; have fy2 := frozen_of_row _ _ 2 _ _ HV.out.2.2; clear hg)
  refine bodyPost_ret (results_cell_row rfl _ _ (w.heap.size + 1) _ #[.bool false, .slice none 0 0, .slice A xs.length cap] (0, 0) (.struct _) rfl (heap_setCell_same _ _ 2 _ _ (.slice A xs.length cap) (heap_setCell_same _ _ 1 _ _ (.slice none 0 0) (heap_setCell_same _ _ 0 _ _ (.bool false) HV.out.2.2))) Try.underlying27 rfl (by kernel_rfl)) rfl ⟨rfl, ((((Ch.refl (w.heap.size + 1) v1).setCell 0 (.bool false)).setCell 1 (.slice none 0 0)).setCell 2 (.slice A xs.length cap)).gr HV.out.1 (by omega)⟩
theorem ki_remove_stay (v : Value) (xs : List Ki) (hl : xs.length ≤ 4000) (at_ : Int) (hat : I64 at_) (hno : ¬ (0 ≤ at_ ∧ at_ < (xs.length : Int))) (w : World) (h : KiAt w v xs) :
    Calls Try.prog 32 #[v, .int .i64 at_] w fun r w' => r = .returned v ∧ Gr w w' := by
  have cH := fun w1 (hg : Gr w w1) => Lib.hid (ki_has v xs hl at_ hat w1 (h.gr hg))
  rw [decide_eq_false hno] at cH
  obtain ⟨A, cap, rfl, hs, h1, h2⟩ := h
  clear hs
  obtain ⟨_, r0, r2⟩ := pl_world w #[.bool false, .slice none 0 0, .slice A xs.length cap] #[.bool false, .slice none 0 0, .slice none 0 0] 27 27
  have HU : Hid (Gr w ((w.alloc (.cells #[.bool false, .slice none 0 0, .slice A xs.length cap] 27)).alloc (.cells #[.bool false, .slice none 0 0, .slice none 0 0] 27)) ∧ ((w.alloc (.cells #[.bool false, .slice none 0 0, .slice A xs.length cap] 27)).alloc (.cells #[.bool false, .slice none 0 0, .slice none 0 0] 27)).heap[w.heap.size]? = some (.cells #[.bool false, .slice none 0 0, .slice A xs.length cap] 27 (0, 0)) ∧ ((w.alloc (.cells #[.bool false, .slice none 0 0, .slice A xs.length cap] 27)).alloc (.cells #[.bool false, .slice none 0 0, .slice none 0 0] 27)).heap[w.heap.size + 1]? = some (.cells #[.bool false, .slice none 0 0, .slice none 0 0] 27 (0, 0))) := ⟨((Gr.refl w).alloc _).alloc _, r0, r2⟩
  clear r0 r2
  go_enter Try.func32, Try.ntmps32
  go_wp2_with (go_at_call 63; refine (cH _ HU.out.1).out.mono ?_; clear cH; rintro r v1 ⟨rfl, hg⟩; have HV := Lib.hid (And.intro (HU.out.1.trans hg) (And.intro ((hg.block (lt_of_row HU.out.2.1)).trans HU.out.2.1) ((hg.block (lt_of_row HU.out.2.2)).trans HU.out.2.2))); have n0 := row_cell HV.out.2.1 0 _ rfl; have n1 := row_cell HV.out.2.1 1 _ rfl; have n2 := row_cell HV.out.2.1 2 _ rfl; have y0 := row_cell HV.out.2.2 0 _ rfl; have fy0 := frozen_of_row _ _ 0 _ _ HV.out.2.2; have y1 := row_cell HV.out.2.2 1 _ rfl; have fy1 := frozen_of_row _ _ 1 _ _ HV.out.2.2; have y2 := row_cell HV.out.2.2 2 _ rfl; have fy2 := frozen_of_row _ _ 2 _ _ HV.out.2.2; clear hg)
  refine bodyPost_ret (results_cell_row rfl _ _ (w.heap.size + 1) _ #[.bool false, .slice none 0 0, .slice A xs.length cap] (0, 0) (.struct _) rfl (heap_setCell_same _ _ 2 _ _ (.slice A xs.length cap) (heap_setCell_same _ _ 1 _ _ (.slice none 0 0) (heap_setCell_same _ _ 0 _ _ (.bool false) HV.out.2.2))) Try.underlying27 rfl (by kernel_rfl)) rfl ⟨rfl, ((((Ch.refl (w.heap.size + 1) v1).setCell 0 (.bool false)).setCell 1 (.slice none 0 0)).setCell 2 (.slice A xs.length cap)).gr HV.out.1 (by omega)⟩
end Go.Proofs.Ytmpmfgkabjedpaa
