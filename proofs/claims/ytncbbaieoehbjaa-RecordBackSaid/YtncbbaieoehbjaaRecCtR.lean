/- Layer 19: counters: what bytes are; the chapter's example. -/
import Derived.Test.YtncbbaieoehbjaaRecCt
namespace Go.Proofs.Ytncbbaieoehbjaa
open Go.RowKit
set_option linter.unusedVariables false
set_option linter.unusedSimpArgs false
set_option maxRecDepth 100000
set_option maxHeartbeats 2000000
def rdCt (s : ByteArray) (e : Int) : Nat × ByteArray × Int := rdNum (rdVer s e).1 (rdVer s e).2 8
theorem ct_vget (b : Nat) (s : ByteArray) (hs : s.size ≤ maxLen) (e : Int) (w : World) (h : RdAt w b s e) (p : Nat) (hp : w.cell? ⟨p, 0, none⟩ = some (.func (.func 64) #[] #[])) (hb : p ≠ b) :
    Calls Try.prog 117 #[.pointer (some ⟨b, 0, none⟩), .pointer (some ⟨p, 0, none⟩)] w fun r w' => r = .returned (.int .u64 ((rdCt s e).1 : Nat)) ∧ RdAt w' b (rdCt s e).2.1 (rdCt s e).2.2 ∧ Ch b w w' := by
  have hs1 := Nat.le_trans (rdNum_size s e 1) hs
  have C1 := Lib.hid (oct_rdone b s hs e w h)
  have CF := fun w1 h1 => Lib.hid (oct_fail b (rdNum s e 1).2.1 (rdNum s e 1).2.2 4 w1 h1)
  have CE := fun w1 h1 => Lib.hid (oct_rdeight b (rdVer s e).1 hs1 (rdVer s e).2 w1 h1)
  unfold rdCt
  clear h
  by_cases hv : (rdNum s e 1).1 = 1
  · have hy : rdVer s e = ((rdNum s e 1).2.1, (rdNum s e 1).2.2) := by unfold rdVer; rw [if_pos hv]
    rw [hy] at CE ⊢
    clear hy
    generalize rdNum s e 1 = q at *
    obtain ⟨n, s1, e1⟩ := q
    simp only at *
    subst hv
    generalize rdNum s1 e1 8 = z at *
    have e0 : ((1 : Nat) : Int) = 1 := rfl
    simp only [e0] at C1
    go_enter Try.func117, Try.ntmps117
    go_wp2_with (first
      | (go_at_call 76; refine C1.out.mono ?_; rintro x v1 ⟨rfl, hr1, hc1⟩; have lp := hc1.cell hb hp)
      | (go_at_call 64; refine (CE _ hr1).out.mono ?_; rintro x v2 ⟨rfl, hr2, hc2⟩))
    go_ret
    exact ⟨rfl, hr2, hc1.trans hc2⟩
  · have hy : rdVer s e = ((rdNum s e 1).2.1, rdFail (rdNum s e 1).2.2 4) := by unfold rdVer; rw [if_neg hv]
    rw [hy] at CE ⊢
    clear hy
    generalize rdNum s e 1 = q at *
    obtain ⟨n, s1, e1⟩ := q
    simp only at *
    generalize rdFail e1 4 = e2 at *
    generalize rdNum s1 e2 8 = z at *
    have hnb : ((n : Int) != 1) = true := by simp; omega
    go_enter Try.func117, Try.ntmps117
    go_wp2_with (first
      | (go_at_call 76; refine C1.out.mono ?_; rintro x v1 ⟨rfl, hr1, hc1⟩; have lp := hc1.cell hb hp)
      | (go_at_call 77; refine (CF _ hr1).out.mono ?_; rintro x v3 ⟨rfl, hr3, hc3⟩; have lp3 := hc3.cell hb lp)
      | (go_at_call 64; refine (CE _ hr3).out.mono ?_; rintro x v2 ⟨rfl, hr2, hc2⟩))
    go_ret
    exact ⟨rfl, hr2, (hc1.trans hc3).trans hc2⟩
def rdEndCt (s : ByteArray) : Nat × Int := if rdEnd (rdCt s 0).2.1 (rdCt s 0).2.2 = 0 then ((rdCt s 0).1, 0) else (0, rdEnd (rdCt s 0).2.1 (rdCt s 0).2.2)
theorem ct_read (s : ByteArray) (hs : s.size ≤ maxLen) (v : Value) (w : World) (hv : ctF w v) :
    Calls Try.prog 41 #[v, .string s] w fun r w' => r = .returned (.tuple #[.int .u64 ((rdEndCt s).1 : Nat), .int .i64 (rdEndCt s).2]) ∧ Gr w w' := by
  obtain ⟨b1, b2, rfl, hb1, hb2⟩ := hv
  have hn1 := ct_eq2
  have HL := Lib.hid (And.intro (block_lt_of_cell hb2) hb2)
  clear hb1 hb2
  have CG := fun b w1 h1 p hp hb => Lib.hid (ct_vget b s hs 0 w1 h1 p hp hb)
  have HY : Hid (rdEndCt s = if rdEnd (rdCt s 0).2.1 (rdCt s 0).2.2 = 0 then ((rdCt s 0).1, 0) else (0, rdEnd (rdCt s 0).2.1 (rdCt s 0).2.2)) := rfl
  generalize rdEndCt s = y at *
  generalize rdCt s 0 = z at *
  obtain ⟨n, s', e'⟩ := z
  simp only at CG HY
  have HG : Hid (Gr w (w.alloc (.cells #[.func (.func 116) #[] #[.pointer (some ⟨b1, 0, none⟩)], .func (.func 117) #[] #[.pointer (some ⟨b2, 0, none⟩)]] 42))) := (Gr.refl w).alloc _
  have HA := Lib.hid (heap_alloc_last w (.cells #[.func (.func 116) #[] #[.pointer (some ⟨b1, 0, none⟩)], .func (.func 117) #[] #[.pointer (some ⟨b2, 0, none⟩)]] 42))
  have HZ : Hid ((w.alloc (.cells #[.func (.func 116) #[] #[.pointer (some ⟨b1, 0, none⟩)], .func (.func 117) #[] #[.pointer (some ⟨b2, 0, none⟩)]] 42)).heap.size = w.heap.size + 1) := alloc_size _ _
  by_cases hz : rdEnd s' e' = 0
  · have hzb : (rdEnd s' e' != 0) = false := by simp [hz]
    rw [if_pos hz] at HY
    obtain rfl := HY.out
    clear hz
    go_enter Try.func41, Try.ntmps41
    go_wp2_with (first
      | (go_at_call 71; refine (oct_over s _).mono ?_; rintro r v1 ⟨rfl, hr, hg⟩
         have HR : Hid (RdAt v1 (w.heap.size + 1) s 0) := by have h := hr; rw [HZ.out] at h; exact h
         have HG1 : Hid (Gr w v1) := HG.out.trans hg
         obtain ⟨p0, p1, _, _⟩ := At2.of_row ((hg.block (k := w.heap.size) (by rw [HZ.out]; omega)).trans HA.out)
         clear hr hg)
      | (go_at_call 117; refine (CG _ _ HR.out _ (HG1.out.cells HL.out.2) (by have := HL.out.1; omega)).out.mono ?_; rintro r v2 ⟨rfl, hr2, hc2⟩; have HE := Lib.hid (oct_end _ _ _ _ hr2))
      | (go_at_call 72; refine HE.out.mono ?_; rintro r v3 ⟨rfl, rfl⟩))
    go_ret2
    exact ⟨rfl, hc2.gr HG1.out (by omega)⟩
  · have hzb : (rdEnd s' e' != 0) = true := by simp [hz]
    rw [if_neg hz] at HY
    obtain rfl := HY.out
    clear hz
    go_enter Try.func41, Try.ntmps41
    go_wp2_with (first
      | (go_at_call 71; refine (oct_over s _).mono ?_; rintro r v1 ⟨rfl, hr, hg⟩
         have HR : Hid (RdAt v1 (w.heap.size + 1) s 0) := by have h := hr; rw [HZ.out] at h; exact h
         have HG1 : Hid (Gr w v1) := HG.out.trans hg
         obtain ⟨p0, p1, _, _⟩ := At2.of_row ((hg.block (k := w.heap.size) (by rw [HZ.out]; omega)).trans HA.out)
         clear hr hg)
      | (go_at_call 117; refine (CG _ _ HR.out _ (HG1.out.cells HL.out.2) (by have := HL.out.1; omega)).out.mono ?_; rintro r v2 ⟨rfl, hr2, hc2⟩; have HE := Lib.hid (oct_end _ _ _ _ hr2))
      | (go_at_call 72; refine HE.out.mono ?_; rintro r v3 ⟨rfl, rfl⟩))
    go_ret2
    exact ⟨rfl, hc2.gr HG1.out (by omega)⟩
theorem ct_one : rdEndCt (B [1, 0, 0, 0, 0, 0, 0, 0, 1]) = (1, 0) := by decide
theorem ct_oneB : B (Oct.be 1 1) ++ B (Oct.be 1 8) = B [1, 0, 0, 0, 0, 0, 0, 0, 1] := by decide
theorem law19_awake (w : World) : Calls Try.prog 9 #[] w fun r w' => r = .returned (.bool true) ∧ Gr w w' := by
  have CR := fun v w1 h => Lib.hid (ct_read (B [1, 0, 0, 0, 0, 0, 0, 0, 1]) (by unfold maxLen; rw [B_size]; simp) v w1 h)
  have CB := fun v w1 h => Lib.hid (ct_bytes 1 (by unfold U64; omega) v w1 h)
  rw [ct_one] at CR
  rw [ct_oneB] at CB
  have e0 : ((1 : Nat) : Int) = 1 := rfl
  simp only [e0, B, List.toArray] at CR CB
  go_enter Try.func9, Try.ntmps9
  go_wp2_with (first
    | (go_at_call 16; refine (ct_mk _).mono ?_; rintro r v1 ⟨c, rfl, hf, hg1⟩)
    | (go_at_call 41; refine (CR _ _ hf).out.mono ?_; rintro r v2 ⟨rfl, hg2⟩; have HG2 := Lib.hid (hg1.trans hg2); clear hf hg1 hg2)
    | (go_at_call 17; refine (CB _ _ hf).out.mono ?_; rintro r v3 ⟨rfl, hg3⟩))
  go_ret
  exact ⟨rfl, (HG2.out.trans hg1).trans hg3⟩
end Go.Proofs.Ytncbbaieoehbjaa
