/- Layer 19: Messages: what bytes are (printed by recgen.py). -/
import Derived.Test.YtncbbaieoehbjaaRecMeA
import Derived.Test.YtncbbaieoehbjaaRecBase
namespace Go.Proofs.Ytncbbaieoehbjaa
open Go.RowKit
set_option linter.unusedVariables false
set_option linter.unusedSimpArgs false
set_option maxRecDepth 100000
set_option maxHeartbeats 9000000
def rdmeB (s : ByteArray) (e : Int) : (Nat × Nat × ByteArray) × ByteArray × Int :=
  (((rdNum s e 4).1, (rdNum (rdNum s e 4).2.1 (rdNum s e 4).2.2 8).1, (rdText (rdNum (rdNum s e 4).2.1 (rdNum s e 4).2.2 8).2.1 (rdNum (rdNum s e 4).2.1 (rdNum s e 4).2.2 8).2.2 32768).1), (rdText (rdNum (rdNum s e 4).2.1 (rdNum s e 4).2.2 8).2.1 (rdNum (rdNum s e 4).2.1 (rdNum s e 4).2.2 8).2.2 32768).2)
theorem me_get (b : Nat) (s : ByteArray) (hs : s.size ≤ maxLen) (e : Int) (w : World) (h : RdAt w b s e) (nm : ByteArray) (id : Nat) (p0 : Nat) (hp0 : w.cell? ⟨p0, 0, none⟩ = some (.string nm)) (hb0 : p0 ≠ b) (p1 : Nat) (hp1 : w.cell? ⟨p1, 0, none⟩ = some (.int .u64 (id : Nat))) (hb1 : p1 ≠ b) {n0 : Nat} {n1 : Nat} {n2 : ByteArray} {s' : ByteArray} {e' : Int} (hq : rdmeB s e = ((n0, n1, n2), s', e')) :
    Calls Try.prog 69 #[.pointer (some ⟨b, 0, none⟩), .pointer (some ⟨p0, 0, none⟩), .pointer (some ⟨p1, 0, none⟩)] w fun r w' => r = .returned (.agg #[.string nm, .int .u64 (id : Nat), .int .u32 (n0 : Nat), .int .u64 (n1 : Nat), .string n2]) ∧ RdAt w' b s' e' ∧ Ch b w w' := by
  have C0 := fun w1 h1 => Lib.hid (oct_rdfour b s hs e w1 h1)
  have t1 := Nat.le_trans (rdNum_size _ _ _ : (rdNum s e 4).2.1.size ≤ _) hs
  have C1 := fun w1 h1 => Lib.hid (oct_rdeight b (rdNum s e 4).2.1 t1 (rdNum s e 4).2.2 w1 h1)
  have t2 := Nat.le_trans (rdNum_size _ _ _ : (rdNum (rdNum s e 4).2.1 (rdNum s e 4).2.2 8).2.1.size ≤ _) t1
  have C2 := fun w1 h1 => Lib.hid (oct_rdtext b (rdNum (rdNum s e 4).2.1 (rdNum s e 4).2.2 8).2.1 t2 (rdNum (rdNum s e 4).2.1 (rdNum s e 4).2.2 8).2.2 32768 (I64.nat (n := 32768) (by omega)) w1 h1)
  unfold rdmeB at hq
  generalize rdNum s e 4 = r0 at *
  obtain ⟨m0, s0, e0⟩ := r0
  simp only at *
  generalize rdNum s0 e0 8 = r1 at *
  obtain ⟨m1, s1, e1⟩ := r1
  simp only at *
  generalize rdText s1 e1 32768 = r2 at *
  obtain ⟨m2, s2, e2⟩ := r2
  simp only at *
  simp only [Prod.mk.injEq] at hq
  obtain ⟨⟨rfl, rfl, rfl⟩, rfl, rfl⟩ := hq
  have hw0 := heap_alloc_last w (.cells #[.string { data := #[] }, .int .u64 0, .int .u32 0, .int .u64 0, .string { data := #[] }] 27)
  have HW : Hid (Gr w (w.alloc (.cells #[.string { data := #[] }, .int .u64 0, .int .u32 0, .int .u64 0, .string { data := #[] }] 27))) := (Gr.refl w).alloc _
  have HL := Lib.hid h.lt
  have kp0 := HW.out.cells hp0
  have HB0 := Lib.hid hb0
  have HP0 := Lib.hid (block_lt_of_cell hp0)
  clear hp0 hb0
  have kp1 := HW.out.cells hp1
  have HB1 := Lib.hid hb1
  have HP1 := Lib.hid (block_lt_of_cell hp1)
  clear hp1 hb1
  have HR : Hid (RdAt (w.alloc (.cells #[.string { data := #[] }, .int .u64 0, .int .u32 0, .int .u64 0, .string { data := #[] }] 27)).drew b s e) := (h.gr HW.out).gr (Gr.refl _).drew
  clear h
  go_enter Try.func69, Try.ntmps69
  go_wp2
  have HS : Hid ((w.alloc (.cells #[.string { data := #[] }, .int .u64 0, .int .u32 0, .int .u64 0, .string { data := #[] }] 27)).heap.size = w.heap.size + 1) := alloc_size _ _
  generalize w.alloc (.cells #[.string { data := #[] }, .int .u64 0, .int .u32 0, .int .u64 0, .string { data := #[] }] 27) = W at *
  have HG : Hid (w.heap.size < W.heap.size ∧ b < w.heap.size) := ⟨by have := HS.out; omega, HL.out⟩
  generalize hge : w.heap.size = g at *
  have HGE := Lib.hid (Nat.le_of_eq hge)
  clear hge
  have HH := Lib.hid hw0
  have jc0 := cell_of_row _ _ 0 _ _ _ hw0
  have jf0 := frozen_of_row _ _ 0 _ _ hw0
  have jc1 := cell_of_row _ _ 1 _ _ _ hw0
  have jf1 := frozen_of_row _ _ 1 _ _ hw0
  have jc2 := cell_of_row _ _ 2 _ _ _ hw0
  have jf2 := frozen_of_row _ _ 2 _ _ hw0
  have jc3 := cell_of_row _ _ 3 _ _ _ hw0
  have jf3 := frozen_of_row _ _ 3 _ _ hw0
  have jc4 := cell_of_row _ _ 4 _ _ _ hw0
  have jf4 := frozen_of_row _ _ 4 _ _ hw0
  simp only [List.getElem?_toArray, List.getElem?_cons_zero, List.getElem?_cons_succ] at jc0 jc1 jc2 jc3 jc4
  clear hw0
  have HN0 : Hid (p0 ≠ g) := by have := HP0.out; unfold Hid; omega
  have HN1 : Hid (p1 ≠ g) := by have := HP1.out; unfold Hid; omega
  go_region_with (first
      | (go_at_call 63; refine (C0 _ HR.out).out.mono ?_; rintro r v0 ⟨rfl, hr0, hc⟩; have HV0 : Hid (Ch b W v0) := (Gr.refl W).drew.ch b |>.trans hc; clear hc; have l0_0 := (HV0.out.cell HB0.out kp0); have l0_1 := (HV0.out.cell HB1.out kp1))
      | (go_at_call 64; refine (C1 _ hr0).out.mono ?_; rintro r v1 ⟨rfl, hr1, hc⟩; have HV1 : Hid (Ch b W v1) := HV0.out.trans hc; clear hc; have l1_0 := (HV1.out.cell HB0.out kp0); have l1_1 := (HV1.out.cell HB1.out kp1))
      | (go_at_call 65; refine (C2 _ hr1).out.mono ?_; rintro r v2 ⟨rfl, hr2, hc⟩; have HV2 : Hid (Ch b W v2) := HV1.out.trans hc; clear hc; have l2_0 := (HV2.out.cell HB0.out kp0); have l2_1 := (HV2.out.cell HB1.out kp1); have lc0 := HV2.out.cell (p := ⟨g, 0, none⟩) (by have := HG.out; show g ≠ b; omega) jc0; have lf0 := (HV2.out.frozen (p := ⟨g, 0, none⟩) (by have := HG.out; show g ≠ b; omega) HG.out.1).trans jf0; have lc1 := HV2.out.cell (p := ⟨g, 1, none⟩) (by have := HG.out; show g ≠ b; omega) jc1; have lf1 := (HV2.out.frozen (p := ⟨g, 1, none⟩) (by have := HG.out; show g ≠ b; omega) HG.out.1).trans jf1; have lc2 := HV2.out.cell (p := ⟨g, 2, none⟩) (by have := HG.out; show g ≠ b; omega) jc2; have lf2 := (HV2.out.frozen (p := ⟨g, 2, none⟩) (by have := HG.out; show g ≠ b; omega) HG.out.1).trans jf2; have lc3 := HV2.out.cell (p := ⟨g, 3, none⟩) (by have := HG.out; show g ≠ b; omega) jc3; have lf3 := (HV2.out.frozen (p := ⟨g, 3, none⟩) (by have := HG.out; show g ≠ b; omega) HG.out.1).trans jf3; have lc4 := HV2.out.cell (p := ⟨g, 4, none⟩) (by have := HG.out; show g ≠ b; omega) jc4; have lf4 := (HV2.out.frozen (p := ⟨g, 4, none⟩) (by have := HG.out; show g ≠ b; omega) HG.out.1).trans jf4))
  all_goals (try go_wp2)
  all_goals have HK : Hid (v2.heap[g]? = some (.cells #[.string { data := #[] }, .int .u64 0, .int .u32 0, .int .u64 0, .string { data := #[] }] 27 (0, 0))) := (HV2.out.block g HG.out.1 (by have := HG.out; omega)).trans HH.out
  all_goals refine bodyPost_ret (results_cell_row rfl _ _ g _ #[.string nm, .int .u64 (id : Nat), .int .u32 (m0 : Nat), .int .u64 (m1 : Nat), .string m2] (0, 0) (.struct _) rfl (heap_setCell_same _ _ 4 _ _ _ (heap_setCell_same _ _ 3 _ _ _ (heap_setCell_same _ _ 2 _ _ _ (heap_setCell_same _ _ 1 _ _ _ (heap_setCell_same _ _ 0 _ _ _ HK.out))))) Try.underlying27 rfl (by kernel_rfl)) rfl ⟨rfl, ?_, ?_⟩
  all_goals first
    | exact (((((hr2.ch ((Ch.refl _ _).setCell 0 _) (by have := HG.out; omega)).ch ((Ch.refl _ _).setCell 1 _) (by have := HG.out; omega)).ch ((Ch.refl _ _).setCell 2 _) (by have := HG.out; omega)).ch ((Ch.refl _ _).setCell 3 _) (by have := HG.out; omega)).ch ((Ch.refl _ _).setCell 4 _) (by have := HG.out; omega))
    | exact (((((((HW.out.ch b).trans HV2.out).setFar HGE.out 0 _).setFar HGE.out 1 _).setFar HGE.out 2 _).setFar HGE.out 3 _).setFar HGE.out 4 _)
end Go.Proofs.Ytncbbaieoehbjaa
