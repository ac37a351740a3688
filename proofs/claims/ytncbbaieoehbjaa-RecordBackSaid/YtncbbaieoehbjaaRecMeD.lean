/- Layer 19: Messages: what bytes are, with their version; the codec reads (printed by recgen.py). -/
import Derived.Test.YtncbbaieoehbjaaRecMeB
import Derived.Test.YtncbbaieoehbjaaRecMeC
namespace Go.Proofs.Ytncbbaieoehbjaa
open Go.RowKit
set_option linter.unusedVariables false
set_option linter.unusedSimpArgs false
set_option maxRecDepth 100000
set_option maxHeartbeats 2000000
theorem me_vget (b : Nat) (s : ByteArray) (hs : s.size ≤ maxLen) (e : Int) (w : World) (h : RdAt w b s e) (p : Nat) (nm : ByteArray) (id : Nat) (p0 : Nat) (hp0 : w.cell? ⟨p0, 0, none⟩ = some (.string nm)) (hb0 : p0 ≠ b) (p1 : Nat) (hp1 : w.cell? ⟨p1, 0, none⟩ = some (.int .u64 (id : Nat))) (hb1 : p1 ≠ b) (hp : w.cell? ⟨p, 0, none⟩ = some (.func (.func 69) #[] #[.pointer (some ⟨p0, 0, none⟩), .pointer (some ⟨p1, 0, none⟩)])) (hpb : p ≠ b) {n0 : Nat} {n1 : Nat} {n2 : ByteArray} {s' : ByteArray} {e' : Int} (hq : rdmeB (rdVer s e).1 (rdVer s e).2 = ((n0, n1, n2), s', e')) :
    Calls Try.prog 115 #[.pointer (some ⟨b, 0, none⟩), .pointer (some ⟨p, 0, none⟩)] w fun r w' => r = .returned (.agg #[.string nm, .int .u64 (id : Nat), .int .u32 (n0 : Nat), .int .u64 (n1 : Nat), .string n2]) ∧ RdAt w' b s' e' ∧ Ch b w w' := by
  have hw0 := heap_alloc_last w (.cells #[.string { data := #[] }, .int .u64 0, .int .u32 0, .int .u64 0, .string { data := #[] }] 27)
  have HW : Hid (Gr w (w.alloc (.cells #[.string { data := #[] }, .int .u64 0, .int .u32 0, .int .u64 0, .string { data := #[] }] 27))) := (Gr.refl w).alloc _
  have HS : Hid ((w.alloc (.cells #[.string { data := #[] }, .int .u64 0, .int .u32 0, .int .u64 0, .string { data := #[] }] 27)).heap.size = w.heap.size + 1) := alloc_size _ _
  have HL := Lib.hid h.lt
  have hs1 := Nat.le_trans (rdNum_size s e 1) hs
  have C1 := Lib.hid (oct_rdone b s hs e _ (h.gr HW.out))
  have CF := fun w1 h1 => Lib.hid (oct_fail b (rdNum s e 1).2.1 (rdNum s e 1).2.2 4 w1 h1)
  have CG := fun w1 h1 k0 k1 => Lib.hid (me_get b (rdVer s e).1 hs1 (rdVer s e).2 w1 h1 nm id p0 k0 hb0 p1 k1 hb1 hq)
  have kp := HW.out.cells hp
  have kp0 := HW.out.cells hp0
  have kp1 := HW.out.cells hp1
  have HPB := Lib.hid hpb
  have HB0 := Lib.hid hb0
  have HB1 := Lib.hid hb1
  clear h hp hpb hq hp0 hb0 hp1 hb1
  by_cases hv : (rdNum s e 1).1 = 1
  · have hy : rdVer s e = ((rdNum s e 1).2.1, (rdNum s e 1).2.2) := by unfold rdVer; rw [if_pos hv]
    rw [hy] at CG
    clear hy
    generalize rdNum s e 1 = q at *
    obtain ⟨k, s1, e1⟩ := q
    simp only at *
    subst hv
    have e0 : ((1 : Nat) : Int) = 1 := rfl
    simp only [e0] at C1
    go_enter Try.func115, Try.ntmps115
    go_wp2_with (first
      | (go_at_call 76; refine C1.out.mono ?_; rintro x v1 ⟨rfl, hr1, hc1⟩; have lp1 := hc1.cell HPB.out kp; have l1_0 := hc1.cell HB0.out kp0; have l1_1 := hc1.cell HB1.out kp1)
      | (go_at_call 69; refine (CG _ hr1 l1_0 l1_1).out.mono ?_; rintro x v2 ⟨rfl, hr2, hc2⟩; have HC := Lib.hid (hc1.trans hc2); have HK : Hid (v2.heap[w.heap.size]? = some (.cells #[.string { data := #[] }, .int .u64 0, .int .u32 0, .int .u64 0, .string { data := #[] }] 27 (0, 0))) := (HC.out.block w.heap.size (by have := HS.out; omega) (by have := HL.out; omega)).trans hw0; have jc0 : v2.cell? ⟨w.heap.size, 0, none⟩ = some (.string { data := #[] }) := (by rw [cell_of_row _ _ 0 _ _ _ HK.out] <;> rfl); have jc1 : v2.cell? ⟨w.heap.size, 1, none⟩ = some (.int .u64 0) := (by rw [cell_of_row _ _ 1 _ _ _ HK.out] <;> rfl); have jc2 : v2.cell? ⟨w.heap.size, 2, none⟩ = some (.int .u32 0) := (by rw [cell_of_row _ _ 2 _ _ _ HK.out] <;> rfl); have jc3 : v2.cell? ⟨w.heap.size, 3, none⟩ = some (.int .u64 0) := (by rw [cell_of_row _ _ 3 _ _ _ HK.out] <;> rfl); have jc4 : v2.cell? ⟨w.heap.size, 4, none⟩ = some (.string { data := #[] }) := (by rw [cell_of_row _ _ 4 _ _ _ HK.out] <;> rfl); have jf0 := frozen_of_row _ _ 0 _ _ HK.out; have jf1 := frozen_of_row _ _ 1 _ _ HK.out; have jf2 := frozen_of_row _ _ 2 _ _ HK.out; have jf3 := frozen_of_row _ _ 3 _ _ HK.out; have jf4 := frozen_of_row _ _ 4 _ _ HK.out))
    refine bodyPost_ret (results_cell_row rfl _ _ w.heap.size _ #[.string nm, .int .u64 (id : Nat), .int .u32 (n0 : Nat), .int .u64 (n1 : Nat), .string n2] (0, 0) (.struct _) rfl (heap_setCell_same _ _ 4 _ _ _ (heap_setCell_same _ _ 3 _ _ _ (heap_setCell_same _ _ 2 _ _ _ (heap_setCell_same _ _ 1 _ _ _ (heap_setCell_same _ _ 0 _ _ _ HK.out))))) Try.underlying27 rfl (by kernel_rfl)) rfl ⟨rfl, ?_, ?_⟩
    · exact (((((hr2.ch ((Ch.refl _ _).setCell 0 _) (by have := HL.out; omega)).ch ((Ch.refl _ _).setCell 1 _) (by have := HL.out; omega)).ch ((Ch.refl _ _).setCell 2 _) (by have := HL.out; omega)).ch ((Ch.refl _ _).setCell 3 _) (by have := HL.out; omega)).ch ((Ch.refl _ _).setCell 4 _) (by have := HL.out; omega))
    · exact (((((((HW.out.ch b).trans HC.out).setFar (Nat.le_refl _) 0 _).setFar (Nat.le_refl _) 1 _).setFar (Nat.le_refl _) 2 _).setFar (Nat.le_refl _) 3 _).setFar (Nat.le_refl _) 4 _)
  · have hy : rdVer s e = ((rdNum s e 1).2.1, rdFail (rdNum s e 1).2.2 4) := by unfold rdVer; rw [if_neg hv]
    rw [hy] at CG
    clear hy
    generalize rdNum s e 1 = q at *
    obtain ⟨k, s1, e1⟩ := q
    simp only at *
    generalize rdFail e1 4 = e2 at *
    have hnb : ((k : Int) != 1) = true := by simp; omega
    go_enter Try.func115, Try.ntmps115
    go_wp2_with (first
      | (go_at_call 76; refine C1.out.mono ?_; rintro x v1 ⟨rfl, hr1, hc1⟩; have lp1 := hc1.cell HPB.out kp; have l1_0 := hc1.cell HB0.out kp0; have l1_1 := hc1.cell HB1.out kp1)
      | (go_at_call 77; refine (CF _ hr1).out.mono ?_; rintro x v3 ⟨rfl, hr3, hc3⟩; have lp3 := hc3.cell HPB.out lp1; have l3_0 := hc3.cell HB0.out l1_0; have l3_1 := hc3.cell HB1.out l1_1)
      | (go_at_call 69; refine (CG _ hr3 l3_0 l3_1).out.mono ?_; rintro x v2 ⟨rfl, hr2, hc2⟩; have HC := Lib.hid ((hc1.trans hc3).trans hc2); have HK : Hid (v2.heap[w.heap.size]? = some (.cells #[.string { data := #[] }, .int .u64 0, .int .u32 0, .int .u64 0, .string { data := #[] }] 27 (0, 0))) := (HC.out.block w.heap.size (by have := HS.out; omega) (by have := HL.out; omega)).trans hw0; have jc0 : v2.cell? ⟨w.heap.size, 0, none⟩ = some (.string { data := #[] }) := (by rw [cell_of_row _ _ 0 _ _ _ HK.out] <;> rfl); have jc1 : v2.cell? ⟨w.heap.size, 1, none⟩ = some (.int .u64 0) := (by rw [cell_of_row _ _ 1 _ _ _ HK.out] <;> rfl); have jc2 : v2.cell? ⟨w.heap.size, 2, none⟩ = some (.int .u32 0) := (by rw [cell_of_row _ _ 2 _ _ _ HK.out] <;> rfl); have jc3 : v2.cell? ⟨w.heap.size, 3, none⟩ = some (.int .u64 0) := (by rw [cell_of_row _ _ 3 _ _ _ HK.out] <;> rfl); have jc4 : v2.cell? ⟨w.heap.size, 4, none⟩ = some (.string { data := #[] }) := (by rw [cell_of_row _ _ 4 _ _ _ HK.out] <;> rfl); have jf0 := frozen_of_row _ _ 0 _ _ HK.out; have jf1 := frozen_of_row _ _ 1 _ _ HK.out; have jf2 := frozen_of_row _ _ 2 _ _ HK.out; have jf3 := frozen_of_row _ _ 3 _ _ HK.out; have jf4 := frozen_of_row _ _ 4 _ _ HK.out))
    refine bodyPost_ret (results_cell_row rfl _ _ w.heap.size _ #[.string nm, .int .u64 (id : Nat), .int .u32 (n0 : Nat), .int .u64 (n1 : Nat), .string n2] (0, 0) (.struct _) rfl (heap_setCell_same _ _ 4 _ _ _ (heap_setCell_same _ _ 3 _ _ _ (heap_setCell_same _ _ 2 _ _ _ (heap_setCell_same _ _ 1 _ _ _ (heap_setCell_same _ _ 0 _ _ _ HK.out))))) Try.underlying27 rfl (by kernel_rfl)) rfl ⟨rfl, ?_, ?_⟩
    · exact (((((hr2.ch ((Ch.refl _ _).setCell 0 _) (by have := HL.out; omega)).ch ((Ch.refl _ _).setCell 1 _) (by have := HL.out; omega)).ch ((Ch.refl _ _).setCell 2 _) (by have := HL.out; omega)).ch ((Ch.refl _ _).setCell 3 _) (by have := HL.out; omega)).ch ((Ch.refl _ _).setCell 4 _) (by have := HL.out; omega))
    · exact (((((((HW.out.ch b).trans HC.out).setFar (Nat.le_refl _) 0 _).setFar (Nat.le_refl _) 1 _).setFar (Nat.le_refl _) 2 _).setFar (Nat.le_refl _) 3 _).setFar (Nat.le_refl _) 4 _)
end Go.Proofs.Ytncbbaieoehbjaa
