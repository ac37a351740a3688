/- Layer 3: a number in so many bytes, the program's and the reference's. -/
import Derived.Test.YtmpmfgkabjedpaaBase
import Derived.Test.YtmpmfgkabjedpaaOctMath
import Derived.Laws.IdiomStrings
namespace Go.Proofs.Ytmpmfgkabjedpaa
open Go.RowKit
set_option linter.unusedVariables false
set_option linter.unusedSimpArgs false
set_option maxRecDepth 100000
/-- below 2^64 -/
def U64 (n : Nat) : Prop := n < 18446744073709551616
theorem wrap_u64_of (n : Nat) (h : U64 n) : IntKind.u64.wrap (n : Int) = (n : Int) := by
  have h' : (n : Int) < 18446744073709551616 := by unfold U64 at h; omega
  simp only [IntKind.wrap, IntKind.bits, IntKind.signed, Bool.false_and, Bool.false_eq_true, if_false]
  exact Int.emod_eq_of_lt (by omega) (by simpa using h')
theorem wrap_u64_div (n : Nat) (h : U64 n) : IntKind.u64.wrap ((n : Int) / 256) = ((n / 256 : Nat) : Int) :=
  wrap_u64_of (n / 256) (Nat.lt_of_le_of_lt (Nat.div_le_self _ _) h)
/-- eight bytes' cells -/
def Oct.row (T : Nat → Nat) : Array Value := ((List.range 8).map fun i => Value.int .u8 (T i : Nat)).toArray
theorem Oct.row_get (T : Nat → Nat) {i : Nat} (h : i < 8) : (Oct.row T)[i]? = some (.int .u8 (T i : Nat)) := by simp [Oct.row, h]
theorem Oct.row_size (T : Nat → Nat) : (Oct.row T).size = 8 := by simp [Oct.row]
theorem Oct.row_zero : Oct.row (fun _ => 0) = #[.int .u8 0, .int .u8 0, .int .u8 0, .int .u8 0, .int .u8 0, .int .u8 0, .int .u8 0, .int .u8 0] := rfl
theorem Oct.row_set (T U : Nat → Nat) (k v : Nat) (hU : ∀ i, i < 8 → U i = if i = k then v else T i) : (Oct.row T).setIfInBounds k (.int .u8 (v : Nat)) = Oct.row U := by
  apply Array.ext
  · simp [Oct.row_size]
  · intro i h1 h2
    rw [Oct.row_size] at h2
    have h3 : i < (Oct.row T).size := by rw [Oct.row_size]; exact h2
    rw [Array.getElem_setIfInBounds h3]
    simp only [Oct.row, List.getElem_toArray, List.getElem_map, List.getElem_range, hU i h2]
    by_cases e : k = i
    · subst e; simp
    · simp [e, show ¬ i = k by omega]
attribute [irreducible] Oct.row
def Oct.full (n : Nat) : Nat → Nat := fun i => n / 256 ^ (7 - i) % 256
/-- what the bytes from 8 - b on say -/
theorem Oct.back (n b : Nat) (hb : 1 ≤ b) (hb8 : b ≤ 8) (w : World) :
    (convert 133 9 (.slice (some ⟨w.heap.size, 8 - b, none⟩) b b)).run Try.prog (w.alloc (.cells (Oct.row (Oct.full n)) 161)) = .ok (.string (B (Oct.be n b))) (w.alloc (.cells (Oct.row (Oct.full n)) 161)) := by
  have h := run_convert_bytes_back (P := Try.prog) (w.alloc (.cells (Oct.row (Oct.full n)) 161)) 133 9 5 ⟨w.heap.size, 8 - b, none⟩ b (Oct.be n b) Try.underlying133 Try.underlying5 Try.underlying9 (fun j hj => by
    rw [Oct.be_length] at hj
    rw [Addr.add_mid, cell_of_row _ _ _ _ _ _ (heap_alloc_last _ _), Oct.row_get _ (by omega), Oct.be_get _ _ _ hj, UInt8.toNat_ofNat']
    unfold Oct.full
    rw [show 7 - (8 - b + j) = b - 1 - j by omega])
  rw [Oct.be_length] at h
  exact h

def Oct.made (n k : Nat) : Nat → Nat := fun i => if i < k then n / 256 ^ (7 - i) % 256 else 0
theorem Oct.row_congr {T U : Nat → Nat} (h : ∀ i, i < 8 → T i = U i) : Oct.row T = Oct.row U := by
  unfold Oct.row
  congr 1
  apply List.map_congr_left
  intro i hi
  rw [h i (by simpa using hi)]
theorem Oct.made_full (n : Nat) : Oct.row (Oct.made n 8) = Oct.row (Oct.full n) := Oct.row_congr fun i h => by unfold Oct.made Oct.full; rw [if_pos h]
theorem Oct.shr_eq (n k : Nat) : ((n : Int) / 2 ^ (8 * (7 - k)) % 256) = ((n / 256 ^ (7 - k) % 256 : Nat) : Int) := by
  rw [show (256 : Nat) ^ (7 - k) = 2 ^ (8 * (7 - k)) by rw [Nat.pow_mul]]
  simp
theorem Oct.made_step (n k : Nat) : (Oct.row (Oct.made n k)).setIfInBounds k (.int .u8 ((n / 256 ^ (7 - k) % 256 : Nat) : Int)) = Oct.row (Oct.made n (k + 1)) := by
  apply Oct.row_set
  intro i _
  unfold Oct.made
  by_cases e : i = k
  · subst e; simp
  · by_cases l : i < k
    · simp [e, l, show i < k + 1 by omega]
    · simp [e, l, show ¬ i < k + 1 by omega]
set_option maxHeartbeats 400000 in
theorem oct_big (n : Nat) (hn : U64 n) (b : Nat) (hb : b = 1 ∨ b = 2 ∨ b = 4 ∨ b = 8) (w : World) :
    Calls Try.prog 113 #[.int .u64 n, .int .i64 b] w fun e w' => e = .returned (.string (B (Oct.be n b))) ∧ Gr w w' := by
  have hback := Lib.hid (Oct.back n b (by omega) (by omega) w)
  have HN := Lib.hid hn
  clear hn
  go_enter Try.func113, Try.ntmps113
  go_wp2
  go_loopw [7] (fun i wr => ∃ k : Nat, k ≤ 8 ∧ i = .int .i64 k ∧ wr = w.alloc (.cells (Oct.row (Oct.made n k)) 161)) (fun i _ => 8 - (intOf i).toNat)
  case atStart => exact ⟨0, by omega, rfl, by rw [← Oct.row_zero]; congr 2⟩
  case round =>
    obtain ⟨k, hk, rfl, rfl⟩ := hrel
    by_cases hlt : k < 8
    · have hg := Oct.row_get (Oct.made n k) hlt
      go_wp2
      go_roundw
      case rel => exact ⟨k + 1, by omega, by go_num, by rw [Oct.shr_eq, Oct.made_step n k]⟩
      case measure => simp [intOf]; omega
    · obtain rfl : k = 8 := by omega
      rw [Oct.made_full]
      rcases hb with rfl | rfl | rfl | rfl
      all_goals
        have hbk := hback.out
        simp only [Nat.reduceSub] at hbk
        clear hback
        go_wp2
        go_ret
        exact ⟨rfl, (Gr.refl w).alloc _⟩

def Oct.madeR (n j : Nat) : Nat → Nat := fun i => if 8 ≤ i + j then n / 256 ^ (7 - i) % 256 else 0
theorem Oct.madeR_full (n : Nat) : Oct.row (Oct.madeR n 8) = Oct.row (Oct.full n) := Oct.row_congr fun i h => by unfold Oct.madeR Oct.full; rw [if_pos (by omega)]
theorem Oct.madeR_step (n j : Nat) (hj : j < 8) : (Oct.row (Oct.madeR n j)).setIfInBounds (7 - j) (.int .u8 ((n / 256 ^ j % 256 : Nat) : Int)) = Oct.row (Oct.madeR n (j + 1)) := by
  apply Oct.row_set
  intro i hi
  unfold Oct.madeR
  by_cases e : i = 7 - j
  · subst e
    rw [if_pos (by omega), if_pos rfl, show 7 - (7 - j) = j by omega]
  · by_cases l : 8 ≤ i + j
    · simp [e, l, show 8 ≤ i + (j + 1) by omega]
    · simp [e, l, show ¬ 8 ≤ i + (j + 1) by omega]
set_option maxHeartbeats 400000 in
theorem ref_big (n : Nat) (hn : U64 n) (b : Nat) (hb : b = 1 ∨ b = 2 ∨ b = 4 ∨ b = 8) (w : World) :
    Calls Try.prog 95 #[.int .u64 n, .int .i64 b] w fun e w' => e = .returned (.string (B (Oct.be n b))) ∧ Gr w w' := by
  have hback := Lib.hid (Oct.back n b (by omega) (by omega) w)
  have HN := Lib.hid hn
  clear hn
  go_enter Try.func95, Try.ntmps95
  go_wp2
  go_loopw [0, 6] (fun x i wr => ∃ j : Nat, j ≤ 8 ∧ i = .int .i64 (7 - (j : Int)) ∧ x = .int .u64 (n / 256 ^ j : Nat) ∧ wr = w.alloc (.cells (Oct.row (Oct.madeR n j)) 161)) (fun _ i _ => (1 + intOf i).toNat)
  case atStart => exact ⟨0, by omega, rfl, by simp, by rw [← Oct.row_zero]; congr 2; exact Oct.row_congr fun i h => by unfold Oct.madeR; rw [if_neg (by omega)]⟩
  case round =>
    obtain ⟨j, hj, rfl, rfl, rfl⟩ := hrel
    by_cases hlt : j < 8
    · have hg := Oct.row_get (Oct.madeR n j) (i := 7 - j) (by omega)
      have hi : ((7 : Int) - (j : Int)).toNat = 7 - j := by omega
      have hd : n / 256 ^ (j + 1) = n / 256 ^ j / 256 := by rw [Nat.pow_succ, Nat.div_div_eq_div_mul]
      have HS := Lib.hid (And.intro hd (Oct.madeR_step n j hlt))
      clear hd
      have hm : U64 (n / 256 ^ j) := Nat.lt_of_le_of_lt (Nat.div_le_self _ _) HN.out
      generalize n / 256 ^ j = m at *
      have hwr := wrap_u64_div m hm
      have HM := Lib.hid hm
      clear hm
      go_wp2
      go_roundw
      case rel => exact ⟨j + 1, by omega, by congr 1; omega, by rw [HS.out.1]; rfl, by rw [← HS.out.2]; rfl⟩
      case measure => simp [intOf]; omega
    · obtain rfl : j = 8 := by omega
      rw [Oct.madeR_full]
      rcases hb with rfl | rfl | rfl | rfl
      all_goals
        have hbk := hback.out
        simp only [Nat.reduceSub] at hbk
        clear hback
        go_wp2
        go_ret
        exact ⟨rfl, (Gr.refl w).alloc _⟩
end Go.Proofs.Ytmpmfgkabjedpaa
