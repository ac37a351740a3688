/- Layer 4: the document's order of two rows. -/
import Derived.Test.YtckklikfikeokaaDoorOrdHp
import Derived.Test.YtckklikfikeokaaDoorOrdW4
namespace Go.Proofs.YtckklikfikeokaaDoor
open Go.RowKit
set_option linter.unusedVariables false
set_option linter.unusedSimpArgs false
set_option maxRecDepth 100000
set_option maxHeartbeats 4000000
theorem heap_alloc2 (w : World) (a b : Obj) : ((w.alloc a).alloc b).drew.heap[w.heap.size]? = some a ∧ ((w.alloc a).alloc b).drew.heap[w.heap.size + 1]? = some b := by
  refine ⟨?_, ?_⟩
  · show ((w.alloc a).alloc b).heap[w.heap.size]? = _
    rw [((Gr.refl _).alloc b |>.block (k := w.heap.size) (by rw [alloc_size]; omega)), heap_alloc_last]
  · show ((w.alloc a).alloc b).heap[w.heap.size + 1]? = _
    have h := heap_alloc_last (w.alloc a) b
    rw [alloc_size] at h
    exact h
theorem r4_less (A1 A2 : Option Addr) (cap1 cap2 : Nat) (a b : List Pa) (h1 : a.length ≤ cap1) (h2 : b.length ≤ cap2) (hm1 : cap1 ≤ maxLen) (hm2 : cap2 ≤ maxLen) (pa : ∀ p ∈ a, isPlain p) (pb : ∀ p ∈ b, isPlain p) (w : World) (hs1 : SliceAt w A1 3 paCell a) (hs2 : SliceAt w A2 3 paCell b) :
    Calls Tryd.prog 27 #[.slice A1 a.length cap1, .slice A2 b.length cap2] w fun r w' => r = .returned (.bool (rowLt a b)) ∧ Gr w w' := by
  unfold maxLen at hm1 hm2
  obtain ⟨lt, hlt⟩ : ∃ lt, lt = rowLt a b := ⟨_, rfl⟩
  rw [← hlt]
  have HL := Lib.hid hlt
  clear hlt
  have HX := Lib.hid (And.intro hs1 (And.intro hs2 (And.intro pa pb)))
  clear hs1 hs2 pa pb
  go_enter Tryd.func27, Tryd.ntmps27
  go_wp2
  go_loopw [5] (fun i wr => ∃ k : Nat, k ≤ a.length ∧ i = .int .i64 (k : Nat) ∧ Hid (Gr w wr ∧ k ≤ b.length ∧ a.take k = b.take k)) (fun i _ => a.length - (intOf i).toNat)
  case atStart => exact ⟨0, by omega, rfl, Gr.refl _, by omega, rfl⟩
  case round =>
    obtain ⟨k, hk, rfl, HR⟩ := hrel
    have hkb := HR.out.2.1
    by_cases hlt : k < a.length
    · by_cases hltb : k < b.length
      · rcases HX.out.1 with h0 | ⟨x, off, rfl, hcell⟩
        · subst h0; simp at hlt
        rcases HX.out.2.1 with h0 | ⟨y, off2, rfl, hcell2⟩
        · subst h0; simp at hltb
        have hget := List.getElem?_eq_getElem hlt
        have hget2 := List.getElem?_eq_getElem hltb
        have hda : a = a.take k ++ a[k] :: a.drop (k + 1) := by rw [← List.drop_eq_getElem_cons hlt, List.take_append_drop]
        have hma := HX.out.2.2.1 a[k] (List.getElem_mem hlt)
        have hdb : b = b.take k ++ b[k] :: b.drop (k + 1) := by rw [← List.drop_eq_getElem_cons hltb, List.take_append_drop]
        have hmb := HX.out.2.2.2 b[k] (List.getElem_mem hltb)
        have htk : ∀ p q, a[k] = p → b[k] = q → p = q → a.take (k + 1) = b.take (k + 1) := fun p q hp hq hpq => by
          rw [List.take_succ_eq_append_getElem hlt, List.take_succ_eq_append_getElem hltb, HR.out.2.2, hp, hq, hpq]
        generalize a[k] = p at *
        generalize b[k] = q at *
        have HTK := Lib.hid (htk p q rfl rfl)
        clear htk
        have HLT : Hid (p ≠ q → rowLt a b = paLt p q) := fun hne => by rw [hda, hdb, HR.out.2.2]; exact row_snoc _ _ _ _ _ hne
        have HPL := Lib.hid (And.intro hma hmb)
        clear hda hdb hma hmb
        obtain ⟨p0, p1, p2⟩ := p
        obtain ⟨q0, q1, q2⟩ := q
        have a0 := HR.out.1.cells (hcell k _ hget 0 _ rfl)
        have a1 := HR.out.1.cells (hcell k _ hget 1 _ rfl)
        have a2 := HR.out.1.cells (hcell k _ hget 2 _ rfl)
        have b0 := HR.out.1.cells (hcell2 k _ hget2 0 _ rfl)
        have b1 := HR.out.1.cells (hcell2 k _ hget2 1 _ rfl)
        have b2 := HR.out.1.cells (hcell2 k _ hget2 2 _ rfl)
        simp only [Nat.add_zero] at a0 b0
        clear hcell hcell2 hget hget2
        -- CELLS
        have HW0 : Hid (Gr wr (wr.alloc (.cells #[.bool false, .int .u64 0, .string { data := #[] }] 27))) := ((Gr.refl wr).alloc _)
        have a0_0 := HW0.out.cells a0
        have a1_0 := HW0.out.cells a1
        have a2_0 := HW0.out.cells a2
        have b0_0 := HW0.out.cells b0
        have b1_0 := HW0.out.cells b1
        have b2_0 := HW0.out.cells b2
        have HW1 : Hid (Gr wr (wr.alloc (.cells #[.bool p0, .int .u64 (p1 : Nat), .string p2] 27))) := ((Gr.refl wr).alloc _)
        have a0_1 := HW1.out.cells a0
        have a1_1 := HW1.out.cells a1
        have a2_1 := HW1.out.cells a2
        have b0_1 := HW1.out.cells b0
        have b1_1 := HW1.out.cells b1
        have b2_1 := HW1.out.cells b2
        have HW2 : Hid (Gr wr (wr.alloc (.cells #[.bool q0, .int .u64 (q1 : Nat), .string q2] 27))) := ((Gr.refl wr).alloc _)
        have a0_2 := HW2.out.cells a0
        have a1_2 := HW2.out.cells a1
        have a2_2 := HW2.out.cells a2
        have b0_2 := HW2.out.cells b0
        have b1_2 := HW2.out.cells b1
        have b2_2 := HW2.out.cells b2
        have HW3 : Hid (Gr wr ((wr.alloc (.cells #[.bool false, .int .u64 0, .string { data := #[] }] 27)).alloc (.cells #[.bool false, .int .u64 0, .string { data := #[] }] 27))) := (((Gr.refl wr).alloc _).alloc _)
        have a0_3 := HW3.out.cells a0
        have a1_3 := HW3.out.cells a1
        have a2_3 := HW3.out.cells a2
        have b0_3 := HW3.out.cells b0
        have b1_3 := HW3.out.cells b1
        have b2_3 := HW3.out.cells b2
        have HW4 : Hid (Gr wr ((wr.alloc (.cells #[.bool p0, .int .u64 (p1 : Nat), .string p2] 27)).alloc (.cells #[.bool false, .int .u64 0, .string { data := #[] }] 27))) := (((Gr.refl wr).alloc _).alloc _)
        have a0_4 := HW4.out.cells a0
        have a1_4 := HW4.out.cells a1
        have a2_4 := HW4.out.cells a2
        have b0_4 := HW4.out.cells b0
        have b1_4 := HW4.out.cells b1
        have b2_4 := HW4.out.cells b2
        have HW5 : Hid (Gr wr ((wr.alloc (.cells #[.bool false, .int .u64 0, .string { data := #[] }] 27)).alloc (.cells #[.bool p0, .int .u64 (p1 : Nat), .string p2] 27))) := (((Gr.refl wr).alloc _).alloc _)
        have a0_5 := HW5.out.cells a0
        have a1_5 := HW5.out.cells a1
        have a2_5 := HW5.out.cells a2
        have b0_5 := HW5.out.cells b0
        have b1_5 := HW5.out.cells b1
        have b2_5 := HW5.out.cells b2
        have HW6 : Hid (Gr wr ((wr.alloc (.cells #[.bool q0, .int .u64 (q1 : Nat), .string q2] 27)).alloc (.cells #[.bool false, .int .u64 0, .string { data := #[] }] 27))) := (((Gr.refl wr).alloc _).alloc _)
        have a0_6 := HW6.out.cells a0
        have a1_6 := HW6.out.cells a1
        have a2_6 := HW6.out.cells a2
        have b0_6 := HW6.out.cells b0
        have b1_6 := HW6.out.cells b1
        have b2_6 := HW6.out.cells b2
        have HW7 : Hid (Gr wr ((wr.alloc (.cells #[.bool false, .int .u64 0, .string { data := #[] }] 27)).alloc (.cells #[.bool q0, .int .u64 (q1 : Nat), .string q2] 27))) := (((Gr.refl wr).alloc _).alloc _)
        have a0_7 := HW7.out.cells a0
        have a1_7 := HW7.out.cells a1
        have a2_7 := HW7.out.cells a2
        have b0_7 := HW7.out.cells b0
        have b1_7 := HW7.out.cells b1
        have b2_7 := HW7.out.cells b2
        go_wp2
        go_region
        all_goals clear a0_0 a1_0 a2_0 b0_0 b1_0 b2_0 a0_1 a1_1 a2_1 b0_1 b1_1 b2_1 a0_2 a1_2 a2_2 b0_2 b1_2 b2_2 a0_3 a1_3 a2_3 b0_3 b1_3 b2_3 a0_4 a1_4 a2_4 b0_4 b1_4 b2_4 a0_5 a1_5 a2_5 b0_5 b1_5 b2_5 a0_6 a1_6 a2_6 b0_6 b1_6 b2_6 a0_7 a1_7 a2_7 b0_7 b1_7 b2_7 HW0 HW1 HW2 HW3 HW4 HW5 HW6 HW7 a0 a1 a2 b0 b1 b2
        · have HGW : Hid (Gr w (((wr.alloc (.cells #[.bool p0, .int .u64 (p1 : Nat), .string p2] 27)).alloc (.cells #[.bool q0, .int .u64 (q1 : Nat), .string q2] 27)).drew)) := (((HR.out.1.alloc _).alloc _).drew)
          have hr1 : (((wr.alloc (.cells #[.bool p0, .int .u64 (p1 : Nat), .string p2] 27)).alloc (.cells #[.bool q0, .int .u64 (q1 : Nat), .string q2] 27)).drew).heap[wr.heap.size]? = some (.cells #[.bool p0, .int .u64 (p1 : Nat), .string p2] 27) := (heap_alloc2 wr _ _).1
          have hr2 : (((wr.alloc (.cells #[.bool p0, .int .u64 (p1 : Nat), .string p2] 27)).alloc (.cells #[.bool q0, .int .u64 (q1 : Nat), .string q2] 27)).drew).heap[wr.heap.size + 1]? = some (.cells #[.bool q0, .int .u64 (q1 : Nat), .string q2] 27) := (heap_alloc2 wr _ _).2
          have x0 := row_cell hr1 0 _ rfl
          have x1 := row_cell hr1 1 _ rfl
          have x2 := row_cell hr1 2 _ rfl
          have y0 := row_cell hr2 0 _ rfl
          have y1 := row_cell hr2 1 _ rfl
          have y2 := row_cell hr2 2 _ rfl
          clear hr1 hr2
          generalize ((wr.alloc (.cells #[.bool p0, .int .u64 (p1 : Nat), .string p2] 27)).alloc (.cells #[.bool q0, .int .u64 (q1 : Nat), .string q2] 27)).drew = W at *
          cases p0 <;> cases q0
          · by_cases hn : p1 = q1
            · have HT : Hid (Gr w W ∧ k + 1 ≤ b.length ∧ a.take (k + 1) = b.take (k + 1)) := ⟨HGW.out, by omega, HTK.out (by
                have e1 : p2 = .empty := HPL.out.1
                have e2 : q2 = .empty := HPL.out.2
                rw [hn, e1, e2])⟩
              subst hn
              go_wp2
              go_roundw
              case rel => exact ⟨k + 1, by omega, by go_num, HT⟩
              case measure => simp [intOf]; omega
            · have hn2 : ¬ (p1 : Int) = (q1 : Int) := by omega
              have HV : Hid (lt = decide (p1 < q1)) := by
                unfold Hid
                rw [HL.out, HLT.out (fun h => hn (by cases h; rfl))]
                simp [paLt]
              clear hn
              go_wp2
              go_ret
              exact ⟨ret_bool HV.out.symm, HGW.out⟩
          · have HV : Hid (lt = true) := by unfold Hid; rw [HL.out, HLT.out (fun h => by cases h)]; simp [paLt]
            obtain rfl := HV.out
            go_wp2
            go_ret
            exact ⟨rfl, HGW.out⟩
          · have HV : Hid (lt = false) := by unfold Hid; rw [HL.out, HLT.out (fun h => by cases h)]; simp [paLt]
            obtain rfl := HV.out
            go_wp2
            go_ret
            exact ⟨rfl, HGW.out⟩
          · by_cases hn : p2 = q2
            · have HT : Hid (Gr w W ∧ k + 1 ≤ b.length ∧ a.take (k + 1) = b.take (k + 1)) := ⟨HGW.out, by omega, HTK.out (by
                have e1 : p1 = 0 := HPL.out.1
                have e2 : q1 = 0 := HPL.out.2
                rw [hn, e1, e2])⟩
              obtain rfl : p1 = 0 := HPL.out.1
              obtain rfl : q1 = 0 := HPL.out.2
              subst hn
              go_wp2
              go_roundw
              case rel => exact ⟨k + 1, by omega, by go_num, HT⟩
              case measure => simp [intOf]; omega
            · have hn2 : ¬ p2.toList = q2.toList := fun e => hn (bytes_ext (by rw [ByteArray.toList_eq, ByteArray.toList_eq] at e; exact e))
              have hn3 : (p2.toList == q2.toList) = false := by simpa using hn2
              have hn4 : (p2.toList != q2.toList) = true := by simpa using hn2
              have HV : Hid (lt = Op.bytesLess p2.toList q2.toList) := by
                unfold Hid
                rw [HL.out, HLT.out (fun h => hn (by cases h; rfl)), Go.Proofs.bytesLess_eq, ByteArray.toList_eq, ByteArray.toList_eq]
                simp [paLt]
              clear hn
              go_wp2
              go_ret
              exact ⟨ret_bool HV.out.symm, HGW.out⟩
        · have HGW : Hid (Gr w (((wr.alloc (.cells #[.bool q0, .int .u64 (q1 : Nat), .string q2] 27)).alloc (.cells #[.bool p0, .int .u64 (p1 : Nat), .string p2] 27)).drew)) := (((HR.out.1.alloc _).alloc _).drew)
          have hr1 : (((wr.alloc (.cells #[.bool q0, .int .u64 (q1 : Nat), .string q2] 27)).alloc (.cells #[.bool p0, .int .u64 (p1 : Nat), .string p2] 27)).drew).heap[wr.heap.size]? = some (.cells #[.bool q0, .int .u64 (q1 : Nat), .string q2] 27) := (heap_alloc2 wr _ _).1
          have hr2 : (((wr.alloc (.cells #[.bool q0, .int .u64 (q1 : Nat), .string q2] 27)).alloc (.cells #[.bool p0, .int .u64 (p1 : Nat), .string p2] 27)).drew).heap[wr.heap.size + 1]? = some (.cells #[.bool p0, .int .u64 (p1 : Nat), .string p2] 27) := (heap_alloc2 wr _ _).2
          have x0 := row_cell hr2 0 _ rfl
          have x1 := row_cell hr2 1 _ rfl
          have x2 := row_cell hr2 2 _ rfl
          have y0 := row_cell hr1 0 _ rfl
          have y1 := row_cell hr1 1 _ rfl
          have y2 := row_cell hr1 2 _ rfl
          clear hr1 hr2
          generalize ((wr.alloc (.cells #[.bool q0, .int .u64 (q1 : Nat), .string q2] 27)).alloc (.cells #[.bool p0, .int .u64 (p1 : Nat), .string p2] 27)).drew = W at *
          cases p0 <;> cases q0
          · by_cases hn : p1 = q1
            · have HT : Hid (Gr w W ∧ k + 1 ≤ b.length ∧ a.take (k + 1) = b.take (k + 1)) := ⟨HGW.out, by omega, HTK.out (by
                have e1 : p2 = .empty := HPL.out.1
                have e2 : q2 = .empty := HPL.out.2
                rw [hn, e1, e2])⟩
              subst hn
              go_wp2
              go_roundw
              case rel => exact ⟨k + 1, by omega, by go_num, HT⟩
              case measure => simp [intOf]; omega
            · have hn2 : ¬ (p1 : Int) = (q1 : Int) := by omega
              have HV : Hid (lt = decide (p1 < q1)) := by
                unfold Hid
                rw [HL.out, HLT.out (fun h => hn (by cases h; rfl))]
                simp [paLt]
              clear hn
              go_wp2
              go_ret
              exact ⟨ret_bool HV.out.symm, HGW.out⟩
          · have HV : Hid (lt = true) := by unfold Hid; rw [HL.out, HLT.out (fun h => by cases h)]; simp [paLt]
            obtain rfl := HV.out
            go_wp2
            go_ret
            exact ⟨rfl, HGW.out⟩
          · have HV : Hid (lt = false) := by unfold Hid; rw [HL.out, HLT.out (fun h => by cases h)]; simp [paLt]
            obtain rfl := HV.out
            go_wp2
            go_ret
            exact ⟨rfl, HGW.out⟩
          · by_cases hn : p2 = q2
            · have HT : Hid (Gr w W ∧ k + 1 ≤ b.length ∧ a.take (k + 1) = b.take (k + 1)) := ⟨HGW.out, by omega, HTK.out (by
                have e1 : p1 = 0 := HPL.out.1
                have e2 : q1 = 0 := HPL.out.2
                rw [hn, e1, e2])⟩
              obtain rfl : p1 = 0 := HPL.out.1
              obtain rfl : q1 = 0 := HPL.out.2
              subst hn
              go_wp2
              go_roundw
              case rel => exact ⟨k + 1, by omega, by go_num, HT⟩
              case measure => simp [intOf]; omega
            · have hn2 : ¬ p2.toList = q2.toList := fun e => hn (bytes_ext (by rw [ByteArray.toList_eq, ByteArray.toList_eq] at e; exact e))
              have hn3 : (p2.toList == q2.toList) = false := by simpa using hn2
              have hn4 : (p2.toList != q2.toList) = true := by simpa using hn2
              have HV : Hid (lt = Op.bytesLess p2.toList q2.toList) := by
                unfold Hid
                rw [HL.out, HLT.out (fun h => hn (by cases h; rfl)), Go.Proofs.bytesLess_eq, ByteArray.toList_eq, ByteArray.toList_eq]
                simp [paLt]
              clear hn
              go_wp2
              go_ret
              exact ⟨ret_bool HV.out.symm, HGW.out⟩
      · have hkeq : k = b.length := by omega
        have HLT : Hid (lt = false) := by
          unfold Hid
          have hpre : b = a.take k := by rw [HR.out.2.2, hkeq, List.take_length]
          have : a = b ++ a.drop k := by
            conv => lhs; rw [← List.take_append_drop k a]
            rw [← hpre]
          rw [HL.out, this]; exact rowLt_app' _ _
        obtain rfl := HLT.out
        have hki : ¬ (k : Int) < ((b.length : Nat) : Int) := by omega
        have hki2 : (k : Int) < ((a.length : Nat) : Int) := by omega
        have hab : ¬ ((a.length : Nat) : Int) < ((b.length : Nat) : Int) := by omega
        clear hkeq
        go_wp2
        go_ret
        exact ⟨rfl, HR.out.1⟩
    · obtain rfl : k = a.length := by omega
      have hpre : a = b.take a.length := by
        have := HR.out.2.2
        rwa [List.take_length] at this
      have HLT : Hid (lt = decide (a.length < b.length)) := by
        unfold Hid
        have hb : b = a ++ b.drop a.length := by
          conv => lhs; rw [← List.take_append_drop a.length b]
          rw [← hpre]
        have : rowLt a b = !(b.drop a.length).isEmpty := by
          conv => lhs; rw [hb]
          exact rowLt_app _ _
        rw [HL.out, this]
        by_cases h : a.length < b.length
        · have h2 : (b.drop a.length).isEmpty = false := by
            rw [List.isEmpty_eq_false_iff]
            intro e
            have := congrArg List.length e
            rw [List.length_drop] at this
            simp at this; omega
          rw [h2]; simp [h]
        · have h2 : b.drop a.length = [] := List.drop_of_length_le (by omega)
          rw [h2]; simp [h]
      clear hpre
      have hki : ¬ ((a.length : Nat) : Int) < ((a.length : Nat) : Int) := by omega
      go_wp2
      go_ret
      exact ⟨ret_bool HLT.out.symm, HR.out.1⟩
end Go.Proofs.YtckklikfikeokaaDoor
