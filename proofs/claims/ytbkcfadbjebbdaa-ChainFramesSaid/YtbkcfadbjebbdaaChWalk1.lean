/- Layer 9: how many pages; a piece: walked. -/
import Derived.Test.YtbkcfadbjebbdaaChMath
import Derived.Test.YtbkcfadbjebbdaaOctWr
import Derived.Test.YtbkcfadbjebbdaaOctText
import Derived.Test.YtbkcfadbjebbdaaOwn
namespace Go.Proofs.Ytbkcfadbjebbdaa
open Go.RowKit
set_option linter.unusedVariables false
set_option linter.unusedSimpArgs false
set_option maxRecDepth 100000
set_option maxHeartbeats 2000000
theorem ch_need (m : Int) (hm : I64 m) (w : World) :
    Calls Try.prog 28 #[.int .i64 m] w fun r w' => r = .returned (.int .i64 (chNeed m)) ∧ w = w' := by
  unfold I64 at hm
  rcases Int.lt_trichotomy m 0 with h | rfl | h
  · have hN : Hid (chNeed m = 1) := by unfold Hid chNeed; rw [if_pos (by omega)]
    go_enter Try.func28, Try.ntmps28
    go_wp2
    all_goals go_ret
    all_goals (refine ⟨ret_int ?_, rfl⟩; first | exact hN.out.symm | (rw [hN.out]; unfold wrap64; omega) | (have := hN.out; omega))
  · have hN : Hid (chNeed 0 = 1) := rfl
    go_enter Try.func28, Try.ntmps28
    go_wp2
    all_goals go_ret
    all_goals (refine ⟨ret_int ?_, rfl⟩; first | exact hN.out.symm | (rw [hN.out]; unfold wrap64; omega) | (have := hN.out; omega))
  · have h0 : ¬ m < 0 := by omega
    have h2 : (m - 1).tdiv 4068 = (m - 1) / 4068 := Int.tdiv_eq_ediv_of_nonneg (by omega)
    have hN : Hid (chNeed m = (m - 1) / 4068 + 1) := by unfold Hid chNeed; split <;> omega
    have hb : Hid ((m - 1) / 4068 ≥ 0 ∧ (m - 1) / 4068 < 4000000000000000000) := ⟨by omega, by omega⟩
    go_enter Try.func28, Try.ntmps28
    go_wp2
    all_goals (try simp only [h2] at *)
    all_goals go_ret
    all_goals (refine ⟨ret_int ?_, rfl⟩; have := hN.out; have := hb.out; first | omega | (unfold wrap64 at *; omega))
theorem ch_refneed (m : Int) (hm : -9223372036854775808 ≤ m ∧ m ≤ 1048576) (w : World) :
    Calls Try.prog 29 #[.int .i64 m] w fun r w' => r = .returned (.int .i64 (chNeed m)) ∧ w = w' := by
  have HN := Lib.hid (rfl : chNeed m = chNeed m)
  go_enter Try.func29, Try.ntmps29
  go_wp2
  go_loopw [0, 3] (fun a b wr => ∃ (l n : Int), a = .int .i64 l ∧ b = .int .i64 n ∧ 1 ≤ n ∧ n ≤ 1048576 ∧ -9223372036854775808 ≤ l ∧ l + n ≤ 1048577 ∧ chNeed m = chNeed l + (n - 1) ∧ w = wr) (fun a _ _ => (intOf a).toNat)
  case atStart => exact ⟨m, 1, rfl, rfl, by omega, by omega, by omega, by omega, by omega, rfl⟩
  case round =>
    obtain ⟨l, n, rfl, rfl, h1, h2, h3, h4, h5, rfl⟩ := hrel
    by_cases hc : 4068 < l
    · have hup := chNeed_up l hc
      have w1 : wrap64 (l - 4068) = l - 4068 := by unfold wrap64; omega
      have w2 : wrap64 (n + 1) = n + 1 := by unfold wrap64; omega
      generalize chNeed l = x at *
      generalize chNeed m = y at *
      go_wp2
      go_roundw
      case rel => exact ⟨l - 4068, n + 1, by rw [← w1], by rw [← w2], by omega, by omega, by omega, by omega, by omega, trivial⟩
      case measure => simp [intOf]; omega
    · have hl : chNeed l = 1 := by unfold chNeed; rw [if_pos (by omega)]
      have hy : chNeed m = n := by omega
      clear h5 hl HN
      go_wp2
      go_ret
      exact ⟨rfl, rfl⟩
theorem ch_piece (l : List UInt8) (hl : l.length ≤ 1000000) (i : Nat) (hi : i ≤ 1000) (w : World) :
    Calls Try.prog 97 #[.string (B l), .int .i64 (i : Nat)] w fun r w' => r = .returned (.string (B (chPart l i))) ∧ w = w' := by
  have hz : (B l).size = l.length := B_size l
  have HP := fun a b ha hb => Lib.hid (chPiece l i a b ha hb)
  have q1 : (0 : Int) ≤ (i : Int) * 4068 := by omega
  have q3 : ((i : Int) * 4068).toNat = i * 4068 := by omega
  have q7 : (((i : Int) + 1) * 4068).toNat = (i + 1) * 4068 := by omega
  by_cases h1 : (l.length : Int) < (i : Int) * 4068
  · have hx := HP l.length l.length (by omega) (by omega)
    have h2 : (l.length : Int) < ((i : Int) + 1) * 4068 := by omega
    go_enter Try.func97, Try.ntmps97
    go_wp2
    go_ret
    refine ⟨ret_str ?_, rfl⟩
    rw [← hx.out]
    apply ByteArray.ext
    simp
  · have h1' : (i : Int) * 4068 ≤ (l.length : Int) := by omega
    by_cases h2 : (l.length : Int) < ((i : Int) + 1) * 4068
    · have hx := HP (i * 4068) l.length (by omega) (by omega)
      go_enter Try.func97, Try.ntmps97
      go_wp2
      go_ret
      exact ⟨ret_str hx.out, rfl⟩
    · have h2' : ((i : Int) + 1) * 4068 ≤ (l.length : Int) := by omega
      have h3 : (i : Int) * 4068 ≤ ((i : Int) + 1) * 4068 := by omega
      have q8 : (0 : Int) ≤ ((i : Int) + 1) * 4068 := by omega
      have q9 : (i : Int) ≤ (i : Int) + 1 := by omega
      have q10 : ¬ ((i : Int) + 1) * 4068 < (i : Int) * 4068 := by omega
      have q11 : ¬ ((i : Int) + 1) * 4068 < 0 := by omega
      have q12 : ¬ (l.length : Int) < ((i : Int) + 1) * 4068 := by omega
      have hx := HP (i * 4068) ((i + 1) * 4068) (by omega) (by omega)
      go_enter Try.func97, Try.ntmps97
      go_wp2
      go_ret
      exact ⟨ret_str hx.out, rfl⟩
end Go.Proofs.Ytbkcfadbjebbdaa
