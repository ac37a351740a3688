/- Layer 3: the program's texts, read and written. -/
import Derived.Test.YtncbbaieoehbjaaOctNum
namespace Go.Proofs.Ytncbbaieoehbjaa
open Go.RowKit
set_option linter.unusedVariables false
set_option linter.unusedSimpArgs false
set_option maxHeartbeats 400000
/-- an int's range -/
def I64 (m : Int) : Prop := -9223372036854775808 ≤ m ∧ m < 9223372036854775808
theorem I64.of {m : Int} (h : (Lit.int .i64 m).wf = true) : I64 m := by
  have : -9223372036854775808 ≤ m ∧ m ≤ 9223372036854775807 := by simpa [Lit.wf, IntKind.min, IntKind.max, IntKind.signed, IntKind.bits] using h
  exact ⟨this.1, by omega⟩
theorem I64.nat {n : Nat} (h : n < 4611686018427387904) : I64 (n : Int) := ⟨by omega, by omega⟩
theorem wrap_u64_i64 (m : Int) (h0 : 0 ≤ m) (h : I64 m) : IntKind.u64.wrap m = m := by
  have h2 := h.2
  have := wrap_u64_of m.toNat (by unfold U64; omega)
  rwa [Int.toNat_of_nonneg h0] at this
theorem oct_rdtext (b : Nat) (s : ByteArray) (hs : s.size ≤ maxLen) (e m : Int) (hm : I64 m) (w : World) (h : RdAt w b s e) :
    Calls Try.prog 65 #[.pointer (some ⟨b, 0, none⟩), .int .i64 m] w fun x w' => x = .returned (.string (rdText s e m).1) ∧ RdAt w' b (rdText s e m).2.1 (rdText s e m).2.2 ∧ Ch b w w' := by
  have HT := Lib.hid (oct_rdfour b s hs e w h)
  have hlt := rdNum_lt s e 4
  have hsz := rdNum_size s e 4
  obtain ⟨n, s', e', hq⟩ : ∃ t s' e', rdNum s e 4 = (t, s', e') := ⟨_, _, _, rfl⟩
  have hX : rdText s e m = if max m 0 < (n : Int) then (ByteArray.empty, s', rdFail e' 5) else rdTake s' e' n := by unfold rdText; rw [hq]
  rw [hX]
  rw [hq] at HT hlt hsz
  simp only at hlt hsz
  clear hq hX
  have hs' : s'.size ≤ maxLen := Nat.le_trans hsz hs
  have c1 : IntKind.u64.wrap (n : Int) = (n : Int) := wrap_u64_of n (by unfold U64; omega)
  clear hsz
  by_cases h0 : m < 0
  · rw [show max m 0 = 0 by omega]
    by_cases hc : (0 : Int) < (n : Int)
    · rw [if_pos hc]
      go_enter Try.func65, Try.ntmps65
      go_wp2_with (first
        | (go_at_call 63; refine HT.out.mono ?_; rintro x w1 ⟨rfl, hr, hc1⟩)
        | (go_at_call 77; refine (oct_fail b s' e' 5 _ hr).mono ?_; rintro x w2 ⟨rfl, hr2, hc2⟩))
      go_ret
      exact ⟨rfl, hr2, hc1.trans hc2⟩
    · rw [if_neg hc]
      have c2 : IntKind.i64.wrap (n : Int) = (n : Int) := IntWalk.i64_in _ (by omega)
      go_enter Try.func65, Try.ntmps65
      go_wp2_with (first
        | (go_at_call 63; refine HT.out.mono ?_; rintro x w1 ⟨rfl, hr, hc1⟩)
        | (go_at_call 113; refine (oct_take b s' hs' e' n _ hr).mono ?_; rintro x w2 ⟨rfl, hr2, hc2⟩))
      go_ret
      exact ⟨rfl, hr2, hc1.trans hc2⟩
  · rw [show max m 0 = m by omega]
    have c3 := wrap_u64_i64 m (by omega) hm
    by_cases hc : m < (n : Int)
    · rw [if_pos hc]
      go_enter Try.func65, Try.ntmps65
      go_wp2_with (first
        | (go_at_call 63; refine HT.out.mono ?_; rintro x w1 ⟨rfl, hr, hc1⟩)
        | (go_at_call 77; refine (oct_fail b s' e' 5 _ hr).mono ?_; rintro x w2 ⟨rfl, hr2, hc2⟩))
      go_ret
      exact ⟨rfl, hr2, hc1.trans hc2⟩
    · rw [if_neg hc]
      have c2 : IntKind.i64.wrap (n : Int) = (n : Int) := IntWalk.i64_in _ (by omega)
      go_enter Try.func65, Try.ntmps65
      go_wp2_with (first
        | (go_at_call 63; refine HT.out.mono ?_; rintro x w1 ⟨rfl, hr, hc1⟩)
        | (go_at_call 113; refine (oct_take b s' hs' e' n _ hr).mono ?_; rintro x w2 ⟨rfl, hr2, hc2⟩))
      go_ret
      exact ⟨rfl, hr2, hc1.trans hc2⟩
end Go.Proofs.Ytncbbaieoehbjaa
