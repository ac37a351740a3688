/- Layer 1: a sum goes on through a table. -/
import Derived.Test.YtlkkgnidcgochaaCrcMake
namespace Go.Proofs.Ytlkkgnidcgochaa
open Go.RowKit
theorem Crc.ix8 (t : Nat) (b : UInt8) : bits .xor .u8 ((t : Int) % 256) (b.toNat : Int) = ((t % 256 ^^^ b.toNat : Nat) : Int) := by
  have h : ((t : Int) % 256) = ((t % 256 : Nat) : Int) := by omega
  rw [h, u8_xor_nat _ _ (by omega) b.toNat_lt]

theorem Crc.flip_nat (n : Nat) (h : n < 4294967296) : 4294967295 ^^^ n = 4294967295 - n := by
  apply Nat.eq_of_testBit_eq
  intro i
  rw [show 4294967295 - n = 2 ^ 32 - (n + 1) by omega, Nat.testBit_two_pow_sub_succ (by omega), Nat.testBit_xor, show 4294967295 = 2 ^ 32 - 1 from rfl, Nat.testBit_two_pow_sub_one]
  by_cases hi : i < 32
  · simp [hi]
  · have : n.testBit i = false := Nat.testBit_lt_two_pow (Nat.lt_of_lt_of_le (m := 2 ^ 32) (by omega) (Nat.pow_le_pow_right (by omega) (by omega)))
    simp [hi, this]
theorem Crc.flip_eq (n : Nat) (h : n < 4294967296) : bits .xor .u32 IntKind.u32.max (n : Int) = ((4294967295 - n : Nat) : Int) := by
  rw [show IntKind.u32.max = ((4294967295 : Nat) : Int) from rfl, u32_xor_nat _ _ (by decide) h, Crc.flip_nat n h]

set_option maxHeartbeats 400000 in
theorem crc_add (T : Nat → Nat) (hT : ∀ i, i < 256 → T i < 4294967296) (b : Nat) (n : Nat) (hn : n < 4294967296) (s : ByteArray) (hs : s.size ≤ maxLen) (w : World)
    (hc : ∀ i, i < 256 → w.cell? ⟨b, i, none⟩ = some (.int .u32 (T i : Nat))) :
    Calls Try.prog 17 #[.pointer (some ⟨b, 0, none⟩), .int .u32 n, .string s] w fun e w' => e = .returned (.int .u32 (Crc.add T n s.data.toList : Nat)) ∧ Dr w w' := by
  unfold maxLen at hs
  have HC := Lib.hid hc
  clear hc
  go_enter Try.func17, Try.ntmps17
  go_wp2
  go_loopw [1, 16] (fun x i wr => ∃ k q : Nat, k ≤ s.size ∧ i = .int .i64 k ∧ wr = w.drewN q ∧ x = .int .u32 (Crc.thru T (4294967295 - n) (s.data.toList.take k) : Nat)) (fun _ i _ => s.size - (intOf i).toNat)
  case atStart => exact ⟨0, 0, by omega, rfl, rfl, by rw [Crc.flip_eq n hn]; simp only [List.take_zero, Crc.thru]⟩
  case round =>
    obtain ⟨k, q, hk, rfl, rfl, rfl⟩ := hrel
    have hl := Crc.thru_lt hT (s := 4294967295 - n) (by omega) (s.data.toList.take k)
    have HT := fun h => Lib.hid (Crc.thru_take T (4294967295 - n) s k h)
    have HA : Hid (Crc.add T n s.data.toList = 4294967295 - Crc.thru T (4294967295 - n) (s.data.toList)) := rfl
    generalize ht : Crc.thru T (4294967295 - n) (s.data.toList.take k) = t at hl HT
    have Ht := Lib.hid ht
    clear ht
    by_cases hlt : k < s.size
    · have hj := Crc.ix_lt t s[k]
      have hcell : w.cell? ⟨b, t % 256 ^^^ s[k].toNat, none⟩ = some (.int .u32 (T (t % 256 ^^^ s[k].toNat) : Nat)) := HC.out _ hj
      have h8 := Crc.ix8 t s[k]
      generalize hJ : t % 256 ^^^ s[k].toNat = j at *
      have HJ := Lib.hid hJ
      clear hJ
      go_wp2

      go_quiet (fail)
      go_wp2

      go_roundw
      case rel => exact ⟨k + 1, _, by omega, by go_num, rfl, by rw [Crc.rest_eq _ _ (hT _ hj) hl, (HT hlt).out, HJ.out]⟩
      case measure => simp [intOf]; omega
    · obtain rfl : k = s.size := by omega
      go_wp2
      go_ret
      exact ⟨ret_int (by rw [HA.out]; rw [take_all] at Ht; rw [Ht.out, Crc.flip_eq t hl]), _, rfl⟩
end Go.Proofs.Ytlkkgnidcgochaa
