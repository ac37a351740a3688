/- Numbers as bytes, the great end first. No program in sight. -/
import Derived.Below
namespace Go.Proofs.YtdpildbdbbfamaaDoor.Oct
set_option linter.unusedVariables false
set_option linter.unusedSimpArgs false
/-- the last k bytes of n -/
def be (n : Nat) : Nat → List UInt8
  | 0 => []
  | k + 1 => be (n / 256) k ++ [UInt8.ofNat n]
theorem be_length (n k : Nat) : (be n k).length = k := by
  induction k generalizing n with
  | zero => rfl
  | succ k ih => simp [be, ih]
theorem be_get (n k i : Nat) (h : i < k) : (be n k)[i]'(by rw [be_length]; exact h) = UInt8.ofNat (n / 256 ^ (k - 1 - i)) := by
  induction k generalizing n with
  | zero => omega
  | succ k ih =>
    simp only [be]
    by_cases hi : i < k
    · rw [List.getElem_append_left (by rw [be_length]; exact hi), ih (n / 256) hi, Nat.div_div_eq_div_mul]
      congr 2
      rw [show k + 1 - 1 - i = (k - 1 - i) + 1 by omega, Nat.pow_succ, Nat.mul_comm]
    · obtain rfl : i = k := by omega
      rw [List.getElem_append_right (by rw [be_length]; omega)]
      simp [be_length]
theorem be_mod (n k : Nat) : be (n % 256 ^ k) k = be n k := by
  apply List.ext_getElem
  · simp [be_length]
  · intro i h1 h2
    rw [be_length] at h1
    rw [be_get _ _ _ h1, be_get _ _ _ h1]
    apply UInt8.toNat.inj
    simp only [UInt8.toNat_ofNat']
    have e : 256 ^ k = 256 ^ (k - 1 - i) * 256 ^ (i + 1) := by rw [← Nat.pow_add]; congr 1; omega
    rw [e, Nat.mod_mul_right_div_self, Nat.pow_succ]
    exact Nat.mod_mul_left_mod _ _ _
theorem snoc_ind {P : List UInt8 → Prop} (h0 : P []) (h1 : ∀ l b, P l → P (l ++ [b])) (l : List UInt8) : P l := by
  have h : ∀ k (l : List UInt8), l.length = k → P l := by
    intro k
    induction k with
    | zero => intro l hl; rw [List.length_eq_zero_iff.1 hl]; exact h0
    | succ k ih =>
      intro l hl
      have hne : l ≠ [] := by intro e; subst e; simp at hl
      rw [← List.dropLast_concat_getLast hne]
      exact h1 _ _ (ih _ (by simp [hl]))
  exact h _ l rfl
/-- the number that bytes are -/
def num : List UInt8 → Nat
  | l => l.foldl (fun a b => a * 256 + b.toNat) 0
theorem foldl_num (l : List UInt8) (a : Nat) : l.foldl (fun a b => a * 256 + b.toNat) a = a * 256 ^ l.length + num l := by
  unfold num
  induction l generalizing a with
  | nil => simp
  | cons b l ih =>
    simp only [List.foldl_cons, List.length_cons]
    rw [ih, ih (0 * 256 + b.toNat), Nat.pow_succ, Nat.zero_mul, Nat.zero_add, Nat.add_mul, Nat.mul_assoc, Nat.mul_comm 256, Nat.add_assoc]
theorem num_snoc (l : List UInt8) (b : UInt8) : num (l ++ [b]) = num l * 256 + b.toNat := by simp [num, List.foldl_append]
theorem num_lt (l : List UInt8) : num l < 256 ^ l.length := by
  induction l using snoc_ind with
  | h0 => simp [num]
  | h1 l b ih =>
    rw [num_snoc, List.length_append, List.length_singleton, Nat.pow_succ]
    have := b.toNat_lt
    omega
theorem num_be (n k : Nat) (h : n < 256 ^ k) : num (be n k) = n := by
  induction k generalizing n with
  | zero => simp at h; subst h; rfl
  | succ k ih =>
    simp only [be]
    rw [num_snoc, ih (n / 256) (by rw [Nat.pow_succ] at h; omega), UInt8.toNat_ofNat']
    omega
theorem be_num (l : List UInt8) : be (num l) l.length = l := by
  induction l using snoc_ind with
  | h0 => rfl
  | h1 l b ih =>
    rw [num_snoc, List.length_append, List.length_singleton]
    have hb := b.toNat_lt
    simp only [be]
    rw [show (num l * 256 + b.toNat) / 256 = num l by omega, ih]
    congr 1
    simp only [List.cons.injEq, and_true]
    apply UInt8.toNat.inj
    rw [UInt8.toNat_ofNat']
    omega
end Go.Proofs.YtdpildbdbbfamaaDoor.Oct
namespace Go.Proofs.YtdpildbdbbfamaaDoor
/-- bytes as a text -/
def B (l : List UInt8) : ByteArray := ⟨l.toArray⟩
theorem B_list (l : List UInt8) : (B l).data.toList = l := rfl
theorem B_size (l : List UInt8) : (B l).size = l.length := by show l.toArray.size = _; simp
theorem B_app (l r : List UInt8) : B l ++ B r = B (l ++ r) := by
  apply ByteArray.ext
  simp [B]
theorem B_be_size (n k : Nat) : (B (Oct.be n k)).size = k := by rw [B_size, Oct.be_length]
end Go.Proofs.YtdpildbdbbfamaaDoor
