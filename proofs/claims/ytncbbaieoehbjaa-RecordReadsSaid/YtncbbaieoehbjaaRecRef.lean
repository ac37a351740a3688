/- Layer 19: the document's reader behind the version; its counter. -/
import Derived.Test.YtncbbaieoehbjaaRecCtR
namespace Go.Proofs.Ytncbbaieoehbjaa
open Go.RowKit
set_option linter.unusedVariables false
set_option linter.unusedSimpArgs false
set_option maxRecDepth 100000
set_option maxHeartbeats 2000000
theorem ref_begin (s : ByteArray) (hs : s.size ≤ maxLen) (w : World) :
    Calls Try.prog 97 #[.string s] w fun r w' => r = .returned (.pointer (some ⟨w.heap.size, 0, none⟩)) ∧ RdAt w' w.heap.size (rdVer s 0).1 (rdVer s 0).2 ∧ Gr w w' := by
  have HR := Lib.hid (RdAt.new w 197 s 0)
  have HG : Hid (Gr w (w.alloc (.cells #[.string s, .int .i64 0] 197))) := (Gr.refl w).alloc _
  have CN := Lib.hid (rref_num w.heap.size s hs 0 1 (by omega) _ HR.out)
  have CF := fun w1 h1 => Lib.hid (rref_fail w.heap.size (rdNum s 0 1).2.1 (rdNum s 0 1).2.2 4 w1 h1)
  by_cases hv : (rdNum s 0 1).1 = 1
  · have hy : rdVer s 0 = ((rdNum s 0 1).2.1, (rdNum s 0 1).2.2) := by unfold rdVer; rw [if_pos hv]
    rw [hy]
    clear hy
    generalize rdNum s 0 1 = q at *
    obtain ⟨k, s1, e1⟩ := q
    simp only at *
    subst hv
    have e0 : ((1 : Nat) : Int) = 1 := rfl
    simp only [e0] at CN
    go_enter Try.func97, Try.ntmps97
    go_wp2_with (go_at_call 98; refine CN.out.mono ?_; rintro x v1 ⟨rfl, hr1, hc1⟩)
    go_ret
    exact ⟨rfl, hr1, hc1.gr HG.out (Nat.le_refl _)⟩
  · have hy : rdVer s 0 = ((rdNum s 0 1).2.1, rdFail (rdNum s 0 1).2.2 4) := by unfold rdVer; rw [if_neg hv]
    rw [hy]
    clear hy
    generalize rdNum s 0 1 = q at *
    obtain ⟨k, s1, e1⟩ := q
    simp only at *
    generalize rdFail e1 4 = e2 at *
    have hnb : ((k : Int) != 1) = true := by simp; omega
    go_enter Try.func97, Try.ntmps97
    go_wp2_with (first
      | (go_at_call 98; refine CN.out.mono ?_; rintro x v1 ⟨rfl, hr1, hc1⟩)
      | (go_at_call 130; refine (CF _ hr1).out.mono ?_; rintro x v2 ⟨rfl, hr2, hc2⟩))
    go_ret
    exact ⟨rfl, hr2, (hc1.trans hc2).gr HG.out (Nat.le_refl _)⟩
theorem ref_counter (s : ByteArray) (hs : s.size ≤ maxLen) (w : World) :
    Calls Try.prog 42 #[.string s] w fun r w' => r = .returned (.tuple #[.int .u64 ((rdEndCt s).1 : Nat), .int .i64 (rdEndCt s).2]) ∧ Gr w w' := by
  have CN := fun w1 h1 => Lib.hid (rref_num w.heap.size (rdVer s 0).1 (Nat.le_trans (rdVer_size s 0) hs) (rdVer s 0).2 8 (by omega) w1 h1)
  have CB := Lib.hid (ref_begin s hs w)
  have HY : Hid (rdEndCt s = if rdEnd (rdCt s 0).2.1 (rdCt s 0).2.2 = 0 then ((rdCt s 0).1, 0) else (0, rdEnd (rdCt s 0).2.1 (rdCt s 0).2.2)) := rfl
  have HD : rdCt s 0 = rdNum (rdVer s 0).1 (rdVer s 0).2 8 := rfl
  rw [← HD] at CN
  clear HD
  generalize rdEndCt s = y at *
  generalize rdVer s 0 = v at *
  generalize rdCt s 0 = z at *
  obtain ⟨n, s', e'⟩ := z
  simp only at CN HY
  by_cases hz : rdEnd s' e' = 0
  · have hzb : (rdEnd s' e' != 0) = false := by simp [hz]
    rw [if_pos hz] at HY
    obtain rfl := HY.out
    clear hz
    go_enter Try.func42, Try.ntmps42
    go_wp2_with (first
      | (go_at_call 97; refine CB.out.mono ?_; rintro x v0 ⟨rfl, hr0, hg0⟩)
      | (go_at_call 98; refine (CN _ hr0).out.mono ?_; rintro x v1 ⟨rfl, hr1, hc1⟩; have HE := Lib.hid (rref_end _ _ _ _ hr1))
      | (go_at_call 100; refine HE.out.mono ?_; rintro x v2 ⟨rfl, rfl⟩))
    go_ret2
    exact ⟨rfl, hc1.gr hg0 (Nat.le_refl _)⟩
  · have hzb : (rdEnd s' e' != 0) = true := by simp [hz]
    rw [if_neg hz] at HY
    obtain rfl := HY.out
    clear hz
    go_enter Try.func42, Try.ntmps42
    go_wp2_with (first
      | (go_at_call 97; refine CB.out.mono ?_; rintro x v0 ⟨rfl, hr0, hg0⟩)
      | (go_at_call 98; refine (CN _ hr0).out.mono ?_; rintro x v1 ⟨rfl, hr1, hc1⟩; have HE := Lib.hid (rref_end _ _ _ _ hr1))
      | (go_at_call 100; refine HE.out.mono ?_; rintro x v2 ⟨rfl, rfl⟩))
    go_ret2
    exact ⟨rfl, hc1.gr hg0 (Nat.le_refl _)⟩
end Go.Proofs.Ytncbbaieoehbjaa
