/- Layer 9: a value's chain, by lists. No program in sight. -/
import Derived.Test.YtbkcfadbjebbdaaOctMath
import Derived.Test.YtbkcfadbjebbdaaOctRd
namespace Go.Proofs.Ytbkcfadbjebbdaa
set_option linter.unusedVariables false
set_option linter.unusedSimpArgs false
set_option maxRecDepth 20000
abbrev Fr := Nat × Nat × ByteArray
def frCell (tx : Nat) (x : Fr) : List Value := [.int .u8 4, .int .u16 (x.1 : Nat), .int .u32 (x.2.1 : Nat), .int .u64 (tx : Nat), .string x.2.2]
def chNeed (m : Int) : Int := if m ≤ 4068 then 1 else (m - 1) / 4068 + 1
def chPart (l : List UInt8) (i : Nat) : List UInt8 := (l.drop (i * 4068)).take 4068
def chNext (ids : List Nat) (i : Nat) : Nat := ids.getD (i + 1) 0
def chFr (ids : List Nat) (l : List UInt8) (i : Nat) : Fr := (i, ids.getD i 0, B (Oct.be (chNext ids i) 4) ++ B (chPart l i))
def chFrs (ids : List Nat) (l : List UInt8) (n : Nat) : List Fr := (List.range n).map (chFr ids l)
theorem chFrs_succ (ids : List Nat) (l : List UInt8) (n : Nat) : chFrs ids l (n + 1) = chFrs ids l n ++ [chFr ids l n] := by simp [chFrs, List.range_succ]
theorem chFrs_len (ids : List Nat) (l : List UInt8) (n : Nat) : (chFrs ids l n).length = n := by simp [chFrs]
open Classical in
noncomputable def chErr (ids : List Nat) (l : List UInt8) : Int :=
  if 65536 < l.length then 5 else if (ids.length : Int) ≠ chNeed l.length then 2 else if (∃ x ∈ ids, x < 2) then 2 else 0
noncomputable def chOut (ids : List Nat) (l : List UInt8) : List Fr := if chErr ids l = 0 then chFrs ids l ids.length else []
theorem chNeed_up (m : Int) (h : 4068 < m) : chNeed m = chNeed (m - 4068) + 1 := by
  unfold chNeed
  rw [if_neg (by omega)]
  split <;> omega
theorem chPart_len (l : List UInt8) (i : Nat) : (chPart l i).length ≤ 4068 := by
  unfold chPart
  rw [List.length_take]; omega
theorem chRest_part (l : List UInt8) (k : Nat) (h : 4068 < (l.drop (k * 4068)).length) : (B (l.drop (k * 4068))).extract 0 4068 = B (chPart l k) := by
  have : (B (l.drop (k * 4068))).extract 0 4068 = B (((l.drop (k * 4068)).drop 0).take (4068 - 0)) := by
    apply ByteArray.ext
    apply Array.ext'
    simp only [ByteArray.data_extract, Array.toList_extract, List.extract_eq_take_drop]
    rfl
  rw [this]; rfl
theorem chRest_all (l : List UInt8) (k : Nat) (h : ¬ 4068 < (l.drop (k * 4068)).length) : B (l.drop (k * 4068)) = B (chPart l k) := by
  unfold chPart
  rw [List.take_of_length_le (by omega)]
theorem chRest_next (l : List UInt8) (k : Nat) : (B (l.drop (k * 4068))).extract (chPart l k).length (l.drop (k * 4068)).length = B (l.drop ((k + 1) * 4068)) := by
  have : (B (l.drop (k * 4068))).extract (chPart l k).length (l.drop (k * 4068)).length = B (((l.drop (k * 4068)).drop (chPart l k).length).take ((l.drop (k * 4068)).length - (chPart l k).length)) := by
    apply ByteArray.ext
    apply Array.ext'
    simp only [ByteArray.data_extract, Array.toList_extract, List.extract_eq_take_drop]
    rfl
  rw [this, List.take_of_length_le (by rw [List.length_drop]; exact Nat.le_refl _)]
  congr 1
  unfold chPart
  rw [List.length_take, List.drop_drop, List.length_drop]
  by_cases h : 4068 ≤ l.length - k * 4068
  · rw [Nat.min_eq_left h, show k * 4068 + 4068 = (k + 1) * 4068 by omega]
  · rw [Nat.min_eq_right (by omega), List.drop_eq_nil_of_le (by omega), List.drop_eq_nil_of_le (by omega)]
theorem chPiece (l : List UInt8) (i a b : Nat) (ha : a = min (i * 4068) l.length) (hb : b = min ((i + 1) * 4068) l.length) : (B l).extract a b = B (chPart l i) := by
  have : (B l).extract a b = B ((l.drop a).take (b - a)) := by
    apply ByteArray.ext
    apply Array.ext'
    simp only [ByteArray.data_extract, Array.toList_extract, List.extract_eq_take_drop]
    rfl
  rw [this]
  congr 1
  unfold chPart
  subst ha hb
  by_cases h : i * 4068 ≤ l.length
  · rw [Nat.min_eq_left h]
    by_cases h2 : (i + 1) * 4068 ≤ l.length
    · rw [Nat.min_eq_left h2, show (i + 1) * 4068 - i * 4068 = 4068 by omega]
    · rw [Nat.min_eq_right (by omega), List.take_of_length_le (by rw [List.length_drop]; exact Nat.le_refl _), List.take_of_length_le (by rw [List.length_drop]; omega)]
  · rw [Nat.min_eq_right (by omega), Nat.min_eq_right (by omega), List.drop_eq_nil_of_le (by omega), List.drop_eq_nil_of_le (by omega)]
    simp
end Go.Proofs.Ytbkcfadbjebbdaa
