/- A text of which four bytes in a row are turned has another sum. No program in sight. -/
import Derived.Test.YtlkkgnidcgochaaCrcMath
set_option linter.unusedSimpArgs false
namespace Go.Proofs.Ytlkkgnidcgochaa.Crc
theorem four_parts (n : Nat) (hn : n < 4294967296) : n = (n % 256) ^^^ 2 ^ 8 * (n / 2 ^ 8 % 256) ^^^ 2 ^ 16 * (n / 2 ^ 16 % 256) ^^^ 2 ^ 24 * (n / 2 ^ 24 % 256) := by
  apply Nat.eq_of_testBit_eq
  intro i
  simp only [Nat.testBit_xor, show (256 : Nat) = 2 ^ 8 from rfl, Nat.testBit_mod_two_pow, Nat.testBit_two_pow_mul, Nat.testBit_div_two_pow]
  by_cases h0 : i < 8
  · simp [h0, show ¬ 8 ≤ i by omega, show ¬ 16 ≤ i by omega, show ¬ 24 ≤ i by omega]
  · by_cases h1 : i < 16
    · simp [h0, h1, show 8 ≤ i by omega, show i - 8 < 8 by omega, show ¬ 16 ≤ i by omega, show ¬ 24 ≤ i by omega, show i - 8 + 8 = i by omega]
    · by_cases h2 : i < 24
      · simp [h0, h1, show 8 ≤ i by omega, show ¬ i - 8 < 8 by omega, show 16 ≤ i by omega, show i - 16 < 8 by omega, show ¬ 24 ≤ i by omega, show i - 16 + 16 = i by omega]
      · by_cases h3 : i < 32
        · simp [h0, h1, show 8 ≤ i by omega, show ¬ i - 8 < 8 by omega, show 16 ≤ i by omega, show ¬ i - 16 < 8 by omega, show 24 ≤ i by omega, show i - 24 < 8 by omega, show i - 24 + 24 = i by omega]
        · have : n.testBit i = false := Nat.testBit_lt_two_pow (Nat.lt_of_lt_of_le (m := 2 ^ 32) (by omega) (Nat.pow_le_pow_right (by omega) (by omega)))
          simp [this, h0, show ¬ i - 8 < 8 by omega, show ¬ i - 16 < 8 by omega, show ¬ i - 24 < 8 by omega]
theorem shl_xor (k a b : Nat) : 2 ^ k * (a ^^^ b) = 2 ^ k * a ^^^ 2 ^ k * b := by
  apply Nat.eq_of_testBit_eq
  intro i
  simp only [Nat.testBit_xor, Nat.testBit_two_pow_mul]
  by_cases h : k ≤ i <;> simp [h]
theorem word_lt (b0 b1 b2 b3 : UInt8) : (b0.toNat ^^^ 2 ^ 8 * b1.toNat ^^^ 2 ^ 16 * b2.toNat ^^^ 2 ^ 24 * b3.toNat) < 2 ^ 32 := by
  have h0 := b0.toNat_lt
  have h1 := b1.toNat_lt
  have h2 := b2.toNat_lt
  have h3 := b3.toNat_lt
  exact Nat.xor_lt_two_pow (Nat.xor_lt_two_pow (Nat.xor_lt_two_pow (by omega) (by omega)) (by omega)) (by omega)
theorem turn_ne (n : Nat) (h0 : n ≠ 0) (hn : n < 4294967296) (pre post : List UInt8) (b0 b1 b2 b3 c0 c1 c2 c3 : UInt8)
    (e0 : c0.toNat = b0.toNat ^^^ (n % 256)) (e1 : c1.toNat = b1.toNat ^^^ (n / 2 ^ 8 % 256)) (e2 : c2.toNat = b2.toNat ^^^ (n / 2 ^ 16 % 256)) (e3 : c3.toNat = b3.toNat ^^^ (n / 2 ^ 24 % 256)) :
    add byt 0 (pre ++ c0 :: c1 :: c2 :: c3 :: post) ≠ add byt 0 (pre ++ b0 :: b1 :: b2 :: b3 :: post) := by
  intro h
  unfold add at h
  have l1 := thru_lt byt_tab (s := 4294967295 - 0) (by omega) (pre ++ c0 :: c1 :: c2 :: c3 :: post)
  have l2 := thru_lt byt_tab (s := 4294967295 - 0) (by omega) (pre ++ b0 :: b1 :: b2 :: b3 :: post)
  have h' : thru byt (4294967295 - 0) (pre ++ c0 :: c1 :: c2 :: c3 :: post) = thru byt (4294967295 - 0) (pre ++ b0 :: b1 :: b2 :: b3 :: post) := by omega
  rw [thru_append, thru_append, thru_four, thru_four] at h'
  have lp := thru_lt byt_tab (s := 4294967295 - 0) (by omega) pre
  generalize thru byt (4294967295 - 0) pre = s at h' lp
  have wb := word_lt b0 b1 b2 b3
  have wc := word_lt c0 c1 c2 c3
  have h2 := thru_inj (sts_lt (Nat.xor_lt_two_pow (n := 32) lp wc)) (sts_lt (Nat.xor_lt_two_pow (n := 32) lp wb)) post h'
  have hw : (c0.toNat ^^^ 2 ^ 8 * c1.toNat ^^^ 2 ^ 16 * c2.toNat ^^^ 2 ^ 24 * c3.toNat) = (b0.toNat ^^^ 2 ^ 8 * b1.toNat ^^^ 2 ^ 16 * b2.toNat ^^^ 2 ^ 24 * b3.toNat) ^^^ n := by
    rw [e0, e1, e2, e3, shl_xor, shl_xor, shl_xor]
    conv => rhs; rhs; rw [four_parts n hn]
    generalize b0.toNat = x0
    generalize 2 ^ 8 * b1.toNat = x1
    generalize 2 ^ 16 * b2.toNat = x2
    generalize 2 ^ 24 * b3.toNat = x3
    ac_rfl
  rw [hw, ← Nat.xor_assoc] at h2
  generalize s ^^^ (b0.toNat ^^^ 2 ^ 8 * b1.toNat ^^^ 2 ^ 16 * b2.toNat ^^^ 2 ^ 24 * b3.toNat) = t at h2
  rw [sts_xor] at h2
  have h3 : sts 32 n = 0 := by
    have : sts 32 t ^^^ (sts 32 t ^^^ sts 32 n) = sts 32 t ^^^ sts 32 t := by rw [h2]
    simpa [← Nat.xor_assoc] using this
  exact h0 (sts_zero hn h3)
end Go.Proofs.Ytlkkgnidcgochaa.Crc
