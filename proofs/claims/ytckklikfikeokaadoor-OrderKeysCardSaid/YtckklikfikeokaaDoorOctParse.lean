/- Layer 3: what a reader answers where what was written lies ahead. No program in sight. -/
import Derived.Test.YtckklikfikeokaaDoorOctRd
namespace Go.Proofs.YtckklikfikeokaaDoor
set_option linter.unusedVariables false
set_option linter.unusedSimpArgs false
theorem B_extract (l : List UInt8) (i j : Nat) : (B l).extract i j = B ((l.drop i).take (j - i)) := by
  apply ByteArray.ext
  apply Array.ext'
  simp only [ByteArray.data_extract, Array.toList_extract, List.extract_eq_take_drop]
  rfl
theorem B_of (s : ByteArray) : ∃ l, s = B l := ⟨s.data.toList, by cases s; simp [B]⟩
theorem rdTake_ahead (l r : List UInt8) : rdTake (B (l ++ r)) 0 (l.length : Nat) = (B l, B r, 0) := by
  have hz : (B (l ++ r)).size = l.length + r.length := by rw [B_size, List.length_append]
  unfold rdTake
  rw [if_neg (by simp), if_neg (by rw [hz]; omega), B_extract, B_extract, hz, Int.toNat_natCast]
  simp
theorem rdTake_ahead' (l r : List UInt8) (k : Nat) (h : l.length = k) : rdTake (B (l ++ r)) 0 (k : Nat) = (B l, B r, 0) := by subst h; exact rdTake_ahead l r
theorem rdNum_ahead (n k : Nat) (r : List UInt8) (h : n < 256 ^ k) : rdNum (B (Oct.be n k ++ r)) 0 k = (n, B r, 0) := by
  unfold rdNum
  rw [rdTake_ahead' _ r k (Oct.be_length n k)]
  simp only [B_list]
  rw [Oct.num_be n k h]
theorem rdText_ahead (l r : List UInt8) (h : l.length < 4294967296) (m : Int) (hm : (l.length : Int) ≤ m) : rdText (B (Oct.be l.length 4 ++ (l ++ r))) 0 m = (B l, B r, 0) := by
  unfold rdText
  rw [rdNum_ahead l.length 4 (l ++ r) (by omega)]
  simp only
  rw [if_neg (by omega), rdTake_ahead]
theorem Oct.text_B (l : List UInt8) : B (Oct.be (B l).size 4) ++ B l = B (Oct.be l.length 4 ++ l) := by rw [B_size, B_app]
end Go.Proofs.YtckklikfikeokaaDoor
