/- Layer 23: two keys compared. -/
import Derived.Deep.RegionLaw
import Derived.Sort.Walk0
import Derived.Laws.Cover1
import Derived.Test.YtmclhhlekblkeaaLeDue
namespace Go.Proofs.Ytmclhhlekblkeaa
open Go.RowKit Go.Shelf
set_option linter.unusedVariables false
set_option linter.unusedSimpArgs false
set_option maxRecDepth 100000
set_option maxHeartbeats 2000000
/-- what a comparing answers -/
noncomputable def sgn (a b : Bool) : Int := if a then -1 else if b then 1 else 0
theorem cmp_nan (s : ByteArray) (w : World) : Calls Try.prog 50 #[.string s] w fun r w' => r = .returned (.bool false) ∧ w = w' := by
  go_enter Try.func50, Try.ntmps50
  go_wp2
  go_ret
  exact ⟨rfl, rfl⟩
theorem cmp_nan64 (n : Nat) (w : World) : Calls Try.prog 51 #[.int .u64 (n : Nat)] w fun r w' => r = .returned (.bool false) ∧ w = w' := by
  go_enter Try.func51, Try.ntmps51
  go_wp2
  go_ret
  exact ⟨rfl, rfl⟩
theorem cmp_str (s t : ByteArray) (w : World) : Calls Try.prog 31 #[.string s, .string t] w fun r w' => r = .returned (.int .i64 (sgn (Op.bytesLess s.toList t.toList) (Op.bytesLess t.toList s.toList))) ∧ w = w' := by
  have c := fun s w1 => Lib.hid (cmp_nan s w1)
  cases h1 : Op.bytesLess s.toList t.toList with
  | true =>
    go_enter Try.func31, Try.ntmps31
    go_wp2_with (go_at_call 50; refine (c _ _).out.mono ?_; rintro r v ⟨rfl, rfl⟩)
    go_ret
    exact ⟨rfl, rfl⟩
  | false =>
    have hgt : (Op.bytesLess s.toList t.toList || s.toList == t.toList) = !Op.bytesLess t.toList s.toList := by
      rw [Go.Proofs.bytesLess_eq, Go.Proofs.bytesLess_eq]
      by_cases ha : s.toList = t.toList
      · rw [ha]; simp [List.lt_irrefl]
      · by_cases hb : s.toList < t.toList
        · have : ¬ t.toList < s.toList := fun h => List.lt_irrefl _ (List.lt_trans hb h)
          simp [hb, this]
        · have : t.toList < s.toList := by
            rcases List.le_iff_lt_or_eq.1 (List.not_lt.1 hb) with h | h
            · exact h
            · exact absurd h.symm ha
          simp [ha, hb, this]
    rw [h1, Bool.false_or] at hgt
    cases h2 : Op.bytesLess t.toList s.toList with
    | true =>
      rw [h2] at hgt
      simp only [Bool.not_true] at hgt
      go_enter Try.func31, Try.ntmps31
      go_wp2_with (go_at_call 50; refine (c _ _).out.mono ?_; rintro r v ⟨rfl, rfl⟩)
      go_ret
      exact ⟨rfl, rfl⟩
    | false =>
      rw [h2] at hgt
      simp only [Bool.not_false] at hgt
      go_enter Try.func31, Try.ntmps31
      go_wp2_with (go_at_call 50; refine (c _ _).out.mono ?_; rintro r v ⟨rfl, rfl⟩)
      go_ret
      exact ⟨rfl, rfl⟩
theorem cmp_u64 (n m : Nat) (w : World) : Calls Try.prog 32 #[.int .u64 (n : Nat), .int .u64 (m : Nat)] w fun r w' => r = .returned (.int .i64 (sgn (decide (n < m)) (decide (m < n)))) ∧ w = w' := by
  have c := fun s w1 => Lib.hid (cmp_nan64 s w1)
  by_cases h1 : n < m
  · have h1' : (n : Int) < (m : Int) := by omega
    have hd : decide (n < m) = true := by simpa using h1
    rw [hd]
    go_enter Try.func32, Try.ntmps32
    go_wp2_with (go_at_call 51; refine (c _ _).out.mono ?_; rintro r v ⟨rfl, rfl⟩)
    go_ret
    exact ⟨rfl, rfl⟩
  · have h1' : ¬ (n : Int) < (m : Int) := by omega
    have hd : decide (n < m) = false := by simpa using h1
    rw [hd]
    by_cases h2 : m < n
    · have h2' : (m : Int) < (n : Int) := by omega
      have hd2 : decide (m < n) = true := by simpa using h2
      rw [hd2]
      go_enter Try.func32, Try.ntmps32
      go_wp2_with (go_at_call 51; refine (c _ _).out.mono ?_; rintro r v ⟨rfl, rfl⟩)
      go_ret
      exact ⟨rfl, rfl⟩
    · have h2' : ¬ (m : Int) < (n : Int) := by omega
      have hd2 : decide (m < n) = false := by simpa using h2
      rw [hd2]
      go_enter Try.func32, Try.ntmps32
      go_wp2_with (go_at_call 51; refine (c _ _).out.mono ?_; rintro r v ⟨rfl, rfl⟩)
      go_ret
      exact ⟨rfl, rfl⟩
theorem cmp_or2 (b : Nat) (x y : Int) (w : World) (h : w.heap[b]? = some (.cells #[.int .i64 x, .int .i64 y] 3 (0, 0))) : Calls Try.prog 30 #[.slice (some ⟨b, 0, none⟩) 2 2] w fun r w' => r = .returned (.int .i64 (if x = 0 then y else x)) ∧ w = w' := by
  have c0 := le_cell h 0 _ rfl
  have c1 := le_cell h 1 _ rfl
  go_enter Try.func30, Try.ntmps30
  go_wp2
  go_loopw [8] (fun i wr => ∃ k : Nat, k ≤ 2 ∧ i = .int .i64 (k : Nat) ∧ (1 ≤ k → x = 0) ∧ (2 ≤ k → y = 0) ∧ wr = w) (fun i _ => 2 - (intOf i).toNat)
  case atStart => exact ⟨0, by omega, rfl, by omega, by omega, rfl⟩
  case round =>
    obtain ⟨k, hk, rfl, h1, h2, rfl⟩ := hrel
    rcases (show k = 0 ∨ k = 1 ∨ k = 2 by omega) with rfl | rfl | rfl
    · by_cases hx : x = 0
      · subst hx
        go_wp2
        go_roundw
        case rel => exact ⟨1, by omega, by go_num, by simp⟩
        case measure => (simp [intOf]; try omega)
      · have hx2 : (x != 0) = true := by simpa using hx
        go_wp2
        go_ret
        exact ⟨by first | rfl | rw [if_neg hx]; rfl, rfl⟩
    · obtain rfl := h1 (by omega)
      by_cases hx : y = 0
      · subst hx
        go_wp2
        go_roundw
        case rel => exact ⟨2, by omega, by go_num, by simp⟩
        case measure => (simp [intOf]; try omega)
      · have hx2 : (y != 0) = true := by simpa using hx
        go_wp2
        go_ret
        exact ⟨by simp, rfl⟩
    · obtain rfl := h1 (by omega)
      obtain rfl := h2 (by omega)
      go_wp2
      go_ret
      exact ⟨by simp, rfl⟩
end Go.Proofs.Ytmclhhlekblkeaa
