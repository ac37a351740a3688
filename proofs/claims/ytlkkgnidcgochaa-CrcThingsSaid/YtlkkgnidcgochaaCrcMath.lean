/- Plain facts on the sum of layer 1: what the table's step does to a number, and what follows of the sum of a text. No program in sight. -/
import Derived.Below
namespace Go.Proofs.Ytlkkgnidcgochaa.Crc

def poly : Nat := 3988292384
/-- one step -/
def st (n : Nat) : Nat := if n % 2 = 1 then (n / 2) ^^^ poly else n / 2
/-- k steps -/
def sts : Nat → Nat → Nat
  | 0, n => n
  | k + 1, n => sts k (st n)
def byt (n : Nat) : Nat := sts 8 n

theorem sts_zero_ (n : Nat) : sts 0 n = n := rfl
theorem sts_succ (k n : Nat) : sts (k + 1) n = st (sts k n) := by
  induction k generalizing n with
  | zero => rfl
  | succ k ih => show sts (k + 1) (st n) = _; rw [ih]; rfl

theorem st_lt {n : Nat} (h : n < 4294967296) : st n < 4294967296 := by
  unfold st
  split
  · have h1 : n / 2 < 2 ^ 32 := by omega
    have h2 : poly < 2 ^ 32 := by decide
    exact Nat.xor_lt_two_pow h1 h2
  · omega
theorem sts_lt {k n : Nat} (h : n < 4294967296) : sts k n < 4294967296 := by
  induction k generalizing n with
  | zero => exact h
  | succ k ih => exact ih (st_lt h)
theorem byt_lt {n : Nat} (h : n < 4294967296) : byt n < 4294967296 := sts_lt h

/-- through a table -/
def thru (T : Nat → Nat) (s : Nat) : List UInt8 → Nat
  | [] => s
  | b :: l => thru T (T ((s % 256) ^^^ b.toNat) ^^^ (s / 256)) l
def add (T : Nat → Nat) (s : Nat) (l : List UInt8) : Nat := 4294967295 - thru T (4294967295 - s) l
def sum (l : List UInt8) : Nat := add byt 0 l

theorem thru_append (T : Nat → Nat) (s : Nat) (l r : List UInt8) : thru T s (l ++ r) = thru T (thru T s l) r := by
  induction l generalizing s with
  | nil => rfl
  | cons b l ih => exact ih _
theorem thru_snoc (T : Nat → Nat) (s : Nat) (l : List UInt8) (b : UInt8) : thru T s (l ++ [b]) = T ((thru T s l % 256) ^^^ b.toNat) ^^^ (thru T s l / 256) := by
  rw [thru_append]; rfl

theorem ix_lt (s : Nat) (b : UInt8) : (s % 256) ^^^ b.toNat < 256 := by
  have h1 : s % 256 < 2 ^ 8 := by omega
  have h2 : b.toNat < 2 ^ 8 := by have := b.toNat_lt; omega
  exact Nat.xor_lt_two_pow h1 h2
theorem thru_lt {T : Nat → Nat} (hT : ∀ i, i < 256 → T i < 4294967296) {s : Nat} (hs : s < 4294967296) (l : List UInt8) : thru T s l < 4294967296 := by
  induction l generalizing s with
  | nil => exact hs
  | cons b l ih =>
    refine ih ?_
    have h1 := hT _ (ix_lt s b)
    have h2 : s / 256 < 2 ^ 32 := by omega
    exact Nat.xor_lt_two_pow (n := 32) h1 h2
theorem thru_congr {T U : Nat → Nat} (h : ∀ i, i < 256 → T i = U i) (s : Nat) (l : List UInt8) : thru T s l = thru U s l := by
  induction l generalizing s with
  | nil => rfl
  | cons b l ih => show thru T _ l = thru U _ l; rw [h _ (ix_lt s b)]; exact ih _
theorem add_congr {T U : Nat → Nat} (h : ∀ i, i < 256 → T i = U i) (s : Nat) (l : List UInt8) : add T s l = add U s l := by
  unfold add; rw [thru_congr h]
theorem byt_tab : ∀ i, i < 256 → byt i < 4294967296 := fun i h => byt_lt (by omega)

theorem add_append {T : Nat → Nat} (hT : ∀ i, i < 256 → T i < 4294967296) {s : Nat} (hs : s < 4294967296) (l r : List UInt8) : add T (add T s l) r = add T s (l ++ r) := by
  unfold add
  have := thru_lt hT (s := 4294967295 - s) (by omega) l
  rw [thru_append, show 4294967295 - (4294967295 - thru T (4294967295 - s) l) = thru T (4294967295 - s) l by omega]

/- THE TURNS -/
theorem st_bit (n i : Nat) : (st n).testBit i = (n.testBit (i + 1) ^^ (n.testBit 0 && poly.testBit i)) := by
  unfold st
  by_cases h : n % 2 = 1
  · rw [if_pos h]
    have h0 : n.testBit 0 = true := by simp [Nat.testBit_zero, h]
    rw [Nat.testBit_xor, h0, ← Nat.testBit_succ]; simp
  · rw [if_neg h]
    have h0 : n.testBit 0 = false := by simp [Nat.testBit_zero, h]
    rw [h0, ← Nat.testBit_succ]; simp
theorem st_xor (a b : Nat) : st (a ^^^ b) = st a ^^^ st b := by
  apply Nat.eq_of_testBit_eq
  intro i
  simp only [st_bit, Nat.testBit_xor]
  cases a.testBit (i + 1) <;> cases b.testBit (i + 1) <;> cases a.testBit 0 <;> cases b.testBit 0 <;> cases poly.testBit i <;> rfl
theorem sts_xor (k a b : Nat) : sts k (a ^^^ b) = sts k a ^^^ sts k b := by
  induction k generalizing a b with
  | zero => rfl
  | succ k ih => show sts k (st (a ^^^ b)) = _; rw [st_xor, ih]; rfl
theorem st_zero {n : Nat} (h : n < 4294967296) (h0 : st n = 0) : n = 0 := by
  unfold st at h0
  by_cases hb : n % 2 = 1
  · rw [if_pos hb] at h0
    have : n / 2 = poly := by
      have h1 : (n / 2 ^^^ poly) ^^^ poly = 0 ^^^ poly := by rw [h0]
      simpa [Nat.xor_assoc] using h1
    unfold poly at this
    omega
  · rw [if_neg hb] at h0; omega
theorem sts_zero {k n : Nat} (h : n < 4294967296) (h0 : sts k n = 0) : n = 0 := by
  induction k generalizing n with
  | zero => exact h0
  | succ k ih => exact st_zero h (ih (st_lt h) h0)
/-- eight steps on whole numbers: the low byte through the table, the rest moved -/
theorem sts_shift (k m : Nat) : sts k (2 ^ k * m) = m := by
  induction k generalizing m with
  | zero => simp [sts]
  | succ k ih =>
    show sts k (st (2 ^ (k + 1) * m)) = m
    have : st (2 ^ (k + 1) * m) = 2 ^ k * m := by
      have e : 2 ^ (k + 1) * m = 2 * (2 ^ k * m) := by rw [Nat.pow_succ]; simp [Nat.mul_comm, Nat.mul_left_comm]
      unfold st; rw [if_neg (by omega)]; omega
    rw [this, ih]
theorem split8 (n : Nat) : n = (n % 256) ^^^ (2 ^ 8 * (n / 256)) := by
  apply Nat.eq_of_testBit_eq
  intro i
  rw [Nat.testBit_xor, show (256 : Nat) = 2 ^ 8 from rfl, Nat.testBit_mod_two_pow, Nat.testBit_two_pow_mul, Nat.testBit_div_two_pow]
  by_cases h : i < 8
  · simp [h, show ¬ (8 ≤ i) by omega]
  · simp [h, show 8 ≤ i by omega, show i - 8 + 8 = i by omega]
theorem byt_step (s b : Nat) : byt ((s % 256) ^^^ b) ^^^ (s / 256) = sts 8 (s ^^^ b) := by
  conv => rhs; rw [split8 s]
  unfold byt
  rw [show (s % 256 ^^^ 2 ^ 8 * (s / 256)) ^^^ b = (s % 256 ^^^ b) ^^^ 2 ^ 8 * (s / 256) by rw [Nat.xor_assoc, Nat.xor_comm (2 ^ 8 * (s / 256)) b, ← Nat.xor_assoc]]
  rw [sts_xor 8 (s % 256 ^^^ b), sts_shift]
theorem thru_cons (s : Nat) (b : UInt8) (l : List UInt8) : thru byt s (b :: l) = thru byt (sts 8 (s ^^^ b.toNat)) l := by
  show thru byt _ l = _; rw [byt_step]
theorem thru_inj {s t : Nat} (hs : s < 4294967296) (ht : t < 4294967296) (l : List UInt8) (h : thru byt s l = thru byt t l) : s = t := by
  induction l generalizing s t with
  | nil => exact h
  | cons b l ih =>
    rw [thru_cons, thru_cons] at h
    have hb : b.toNat < 2 ^ 32 := by have := b.toNat_lt; omega
    have h1 := ih (sts_lt (Nat.xor_lt_two_pow (n := 32) hs hb)) (sts_lt (Nat.xor_lt_two_pow (n := 32) ht hb)) h
    have h2 : sts 8 (s ^^^ t) = 0 := by
      have : s ^^^ t = (s ^^^ b.toNat) ^^^ (t ^^^ b.toNat) := by
        rw [Nat.xor_comm t, Nat.xor_assoc, ← Nat.xor_assoc b.toNat b.toNat t]; simp
      rw [this, sts_xor, h1]; simp
    have h3 := sts_zero (Nat.xor_lt_two_pow (n := 32) hs ht) h2
    have h4 : (s ^^^ t) ^^^ t = 0 ^^^ t := by rw [h3]
    simpa [Nat.xor_assoc] using h4
theorem sts_add (j k n : Nat) : sts (j + k) n = sts j (sts k n) := by
  induction k generalizing n with
  | zero => rfl
  | succ k ih => show sts (j + k) (st n) = _; rw [ih]; rfl
theorem sts32 (n : Nat) : sts 32 n = sts 8 (sts 8 (sts 8 (sts 8 n))) := by
  rw [← sts_add, ← sts_add, ← sts_add]
attribute [irreducible] sts
/-- four bytes in a row are one word -/
theorem thru_four (s : Nat) (b0 b1 b2 b3 : UInt8) (l : List UInt8) :
    thru byt s (b0 :: b1 :: b2 :: b3 :: l) = thru byt (sts 32 (s ^^^ (b0.toNat ^^^ 2 ^ 8 * b1.toNat ^^^ 2 ^ 16 * b2.toNat ^^^ 2 ^ 24 * b3.toNat))) l := by
  have c1 : sts 8 (2 ^ 8 * b1.toNat) = b1.toNat := sts_shift 8 _
  have c2 : sts 8 (2 ^ 16 * b2.toNat) = 2 ^ 8 * b2.toNat := by
    rw [show 2 ^ 16 * b2.toNat = 2 ^ 8 * (2 ^ 8 * b2.toNat) by omega]; exact sts_shift 8 _
  have c2' : sts 8 (2 ^ 8 * b2.toNat) = b2.toNat := sts_shift 8 _
  have c3 : sts 8 (2 ^ 24 * b3.toNat) = 2 ^ 16 * b3.toNat := by
    rw [show 2 ^ 24 * b3.toNat = 2 ^ 8 * (2 ^ 16 * b3.toNat) by omega]; exact sts_shift 8 _
  have c3' : sts 8 (2 ^ 16 * b3.toNat) = 2 ^ 8 * b3.toNat := by
    rw [show 2 ^ 16 * b3.toNat = 2 ^ 8 * (2 ^ 8 * b3.toNat) by omega]; exact sts_shift 8 _
  have c3'' : sts 8 (2 ^ 8 * b3.toNat) = b3.toNat := sts_shift 8 _
  rw [thru_cons, thru_cons, thru_cons, thru_cons, sts32]
  simp only [sts_xor, c1, c2, c2', c3, c3', c3'', Nat.xor_assoc]
end Go.Proofs.Ytlkkgnidcgochaa.Crc
