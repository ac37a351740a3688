/- The reference's functions of layer 1, walked. -/
import Derived.Test.YtlkkgnidcgochaaBase
import Derived.Test.YtlkkgnidcgochaaCrcMath
namespace Go.Proofs.Ytlkkgnidcgochaa
open Go.RowKit
theorem Crc.xor_poly (m : Nat) (h : m < 4294967296) : bits .xor .u32 (m : Int) 3988292384 = ((m ^^^ Crc.poly : Nat) : Int) :=
  u32_xor_nat m 3988292384 h (by decide)

set_option maxHeartbeats 400000 in
theorem ref_step (n : Nat) (hn : n < 4294967296) (w : World) :
    Calls Try.prog 60 #[.int .u32 n] w fun e w' => e = .returned (.int .u32 (Crc.st n : Nat)) ∧ w = w' := by
  have hx := Crc.xor_poly (n / 2) (by omega)
  have hx' : bits .xor .u32 ((n : Int) / 2) 3988292384 = ((n / 2 ^^^ Crc.poly : Nat) : Int) := by rw [← hx]; rfl
  have HX := Lib.hid hx'
  clear hx hx'
  by_cases h : n % 2 = 1
  · have hs : Hid (Crc.st n = (n / 2) ^^^ Crc.poly) := by unfold Hid Crc.st; rw [if_pos h]
    go_enter Try.func60, Try.ntmps60
    go_wp2
    go_ret
    exact ⟨ret_int (by rw [hs.out]; exact HX.out), rfl⟩
  · have hs : Hid (Crc.st n = n / 2) := by unfold Hid Crc.st; rw [if_neg h]
    go_enter Try.func60, Try.ntmps60
    go_wp2
    go_ret
    exact ⟨ret_int (by rw [hs.out]; rfl), rfl⟩

set_option maxHeartbeats 400000 in
theorem ref_byte (n : Nat) (hn : n < 4294967296) (w : World) :
    Calls Try.prog 15 #[.int .u32 n] w fun e w' => e = .returned (.int .u32 (Crc.byt n : Nat)) ∧ w = w' := by
  go_enter Try.func15, Try.ntmps15
  go_wp2
  go_loop [0, 3] (fun x i => ∃ k : Nat, k ≤ 8 ∧ i = .int .i64 k ∧ x = .int .u32 (Crc.sts k n : Nat)) (fun _ i => 8 - (intOf i).toNat)
  case atStart => exact ⟨0, by omega, rfl, by rw [Crc.sts_zero_]⟩
  case round =>
    obtain ⟨k, hk, rfl, rfl⟩ := hrel
    have hl := Crc.sts_lt (k := k) hn
    by_cases hlt : k < 8
    · have hS : Hid (Crc.sts (k + 1) n = Crc.st (Crc.sts k n)) := Crc.sts_succ k n
      go_wp2_with (go_at_call 60; refine (ref_step _ hl _).mono ?_; rintro e w' ⟨rfl, rfl⟩)
      go_round
      case rel => exact ⟨k + 1, by omega, by go_num, by rw [hS.out]⟩
      case measure => simp [intOf]; omega
    · obtain rfl : k = 8 := by omega
      go_wp2
      go_ret
      exact ⟨rfl, rfl⟩

theorem Crc.xor_byte (s : Nat) (b : UInt8) : bits .xor .u32 (((s % 256 : Nat)) : Int) (b.toNat : Int) = (((s % 256) ^^^ b.toNat : Nat) : Int) :=
  u32_xor_nat _ _ (by omega) (by have := b.toNat_lt; omega)
theorem Crc.xor_rest (x s : Nat) (hx : x < 4294967296) (hs : s < 4294967296) : bits .xor .u32 (x : Int) ((s / 256 : Nat) : Int) = ((x ^^^ (s / 256) : Nat) : Int) :=
  u32_xor_nat _ _ hx (by omega)

theorem take_snoc (s : ByteArray) (k : Nat) (h : k < s.size) : s.data.toList.take (k + 1) = s.data.toList.take k ++ [s[k]] := by
  rw [List.take_succ_eq_append_getElem (by simpa using h)]; rfl

theorem Crc.ix_eq (t : Nat) (b : UInt8) : bits .xor .u32 ((t : Int) % 256) ((b.toNat : Int) % 4294967296) = ((t % 256 ^^^ b.toNat : Nat) : Int) := by
  have hb := b.toNat_lt
  rw [← Crc.xor_byte]
  congr 1
  omega
theorem Crc.rest_eq (x t : Nat) (hx : x < 4294967296) (ht : t < 4294967296) : bits .xor .u32 (x : Int) ((t : Int) / 256) = ((x ^^^ (t / 256) : Nat) : Int) := by
  rw [← Crc.xor_rest x t hx ht]; rfl
theorem Crc.thru_take (T : Nat → Nat) (n : Nat) (s : ByteArray) (k : Nat) (h : k < s.size) :
    Crc.thru T n (s.data.toList.take (k + 1)) = T ((Crc.thru T n (s.data.toList.take k) % 256) ^^^ s[k].toNat) ^^^ (Crc.thru T n (s.data.toList.take k) / 256) := by
  rw [take_snoc s k h, Crc.thru_snoc]
theorem take_all (s : ByteArray) : s.data.toList.take s.size = s.data.toList := List.take_of_length_le (by simp)

set_option maxHeartbeats 400000 in
theorem ref_add (n : Nat) (hn : n < 4294967296) (s : ByteArray) (hs : s.size ≤ maxLen) (w : World) :
    Calls Try.prog 16 #[.int .u32 n, .string s] w fun e w' => e = .returned (.int .u32 (Crc.add Crc.byt n s.data.toList : Nat)) ∧ w = w' := by
  unfold maxLen at hs
  go_enter Try.func16, Try.ntmps16
  go_wp2
  go_loop [0, 5] (fun x i => ∃ k : Nat, k ≤ s.size ∧ i = .int .i64 k ∧ x = .int .u32 (Crc.thru Crc.byt (4294967295 - n) (s.data.toList.take k) : Nat)) (fun _ i => s.size - (intOf i).toNat)
  case atStart => exact ⟨0, by omega, rfl, by simp only [List.take_zero, Crc.thru]; congr 1; omega⟩
  case round =>
    obtain ⟨k, hk, rfl, rfl⟩ := hrel
    have hl := Crc.thru_lt Crc.byt_tab (s := 4294967295 - n) (by omega) (s.data.toList.take k)
    have HT := fun h => Lib.hid (Crc.thru_take Crc.byt (4294967295 - n) s k h)
    have HA : Hid (Crc.add Crc.byt n s.data.toList = 4294967295 - Crc.thru Crc.byt (4294967295 - n) (s.data.toList)) := rfl
    generalize ht : Crc.thru Crc.byt (4294967295 - n) (s.data.toList.take k) = t at hl HT
    have Ht := Lib.hid ht
    clear ht
    by_cases hlt : k < s.size
    · have hb := Crc.byt_tab _ (Crc.ix_lt t s[k])
      go_wp2_with (go_at_call 15; rw [Crc.ix_eq]; refine (ref_byte _ (by have := Crc.ix_lt t s[k]; omega) _).mono ?_; rintro e w' ⟨rfl, rfl⟩)
      go_round
      case rel => exact ⟨k + 1, by omega, by go_num, by rw [(HT hlt).out, Crc.rest_eq _ _ hb hl]⟩
      case measure => simp [intOf]; omega
    · obtain rfl : k = s.size := by omega
      go_wp2
      go_ret
      exact ⟨ret_int (by rw [HA.out]; rw [take_all] at Ht; rw [Ht.out]; omega), rfl⟩
end Go.Proofs.Ytlkkgnidcgochaa
