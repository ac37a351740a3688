/- Layer 3: the program's reader, walked: Take, Fail, Left, Err. -/
import Derived.Test.YtmpmfgkabjedpaaOctRd
namespace Go.Proofs.Ytmpmfgkabjedpaa
open Go.RowKit
set_option linter.unusedVariables false
set_option linter.unusedSimpArgs false
set_option maxHeartbeats 400000
theorem oct_take (b : Nat) (s : ByteArray) (hs : s.size ≤ maxLen) (e n : Int) (w : World) (h : RdAt w b s e) :
    Calls Try.prog 111 #[.pointer (some ⟨b, 0, none⟩), .int .i64 n] w fun x w' => x = .returned (.string (rdTake s e n).1) ∧ RdAt w' b (rdTake s e n).2.1 (rdTake s e n).2.2 ∧ Ch b w w' := by
  have H := Lib.hid h
  obtain ⟨h1, h2, h3, h4⟩ := h
  unfold maxLen at hs
  by_cases he : e = 0
  · by_cases hn : n < 0 ∨ (s.size : Int) < n
    · have hr : Hid (rdTake s e n = (ByteArray.empty, s, 3)) := by unfold Hid rdTake; rw [if_neg (by omega), if_pos hn]
      have he0 : (e != 0) = false := by simp [he]
      rw [hr.out]
      clear he
      rcases hn with hn | hn
      all_goals
        go_enter Try.func111, Try.ntmps111
        go_wp2
        go_ret
        exact ⟨rfl, H.out.setE 3, (Ch.refl b w).setCell 1 _⟩
    · have hr : Hid (rdTake s e n = (s.extract 0 n.toNat, s.extract n.toNat s.size, e)) := by unfold Hid rdTake; rw [if_neg (by omega), if_neg hn]
      have he0 : (e != 0) = false := by simp [he]
      rw [hr.out]
      clear he
      have g1 : ¬ n < 0 := fun x => hn (.inl x)
      have g2 : ¬ (s.size : Int) < n := fun x => hn (.inr x)
      have g3 : 0 ≤ n := by omega
      have g4 : n ≤ (s.size : Int) := by omega
      clear hn
      go_enter Try.func111, Try.ntmps111
      go_wp2
      go_ret
      exact ⟨rfl, H.out.setS _, (Ch.refl b w).setCell 0 _⟩
  · have hr : Hid (rdTake s e n = (ByteArray.empty, s, e)) := by unfold Hid rdTake; rw [if_pos he]
    have he0 : (e != 0) = true := by simp [he]
    rw [hr.out]
    clear he
    go_enter Try.func111, Try.ntmps111
    go_wp2
    go_ret
    exact ⟨rfl, H.out, Ch.refl b w⟩
theorem oct_fail (b : Nat) (s : ByteArray) (e f : Int) (w : World) (h : RdAt w b s e) :
    Calls Try.prog 112 #[.pointer (some ⟨b, 0, none⟩), .int .i64 f] w fun x w' => x = .returned (.tuple #[]) ∧ RdAt w' b s (rdFail e f) ∧ Ch b w w' := by
  have H := Lib.hid h
  obtain ⟨h1, h2, h3, h4⟩ := h
  by_cases he : e = 0
  · have hr : Hid (rdFail e f = f) := by unfold Hid rdFail; rw [if_pos he]
    have he0 : (e == 0) = true := by simp [he]
    rw [hr.out]
    clear he
    go_enter Try.func112, Try.ntmps112
    go_wp2
    go_end0
    exact ⟨rfl, H.out.setE f, (Ch.refl b w).setCell 1 _⟩
  · have hr : Hid (rdFail e f = e) := by unfold Hid rdFail; rw [if_neg he]
    have he0 : (e == 0) = false := by simp [he]
    rw [hr.out]
    clear he
    go_enter Try.func112, Try.ntmps112
    go_wp2
    go_end0
    exact ⟨rfl, H.out, Ch.refl b w⟩
theorem oct_left (b : Nat) (s : ByteArray) (e : Int) (w : World) (h : RdAt w b s e) :
    Calls Try.prog 98 #[.pointer (some ⟨b, 0, none⟩)] w fun x w' => x = .returned (.int .i64 s.size) ∧ w = w' := by
  obtain ⟨h1, h2, h3, h4⟩ := h
  go_enter Try.func98, Try.ntmps98
  go_wp2
  go_ret
  exact ⟨rfl, rfl⟩
theorem oct_err (b : Nat) (s : ByteArray) (e : Int) (w : World) (h : RdAt w b s e) :
    Calls Try.prog 99 #[.pointer (some ⟨b, 0, none⟩)] w fun x w' => x = .returned (.int .i64 e) ∧ w = w' := by
  obtain ⟨h1, h2, h3, h4⟩ := h
  go_enter Try.func99, Try.ntmps99
  go_wp2
  go_ret
  exact ⟨rfl, rfl⟩
theorem oct_end (b : Nat) (s : ByteArray) (e : Int) (w : World) (h : RdAt w b s e) :
    Calls Try.prog 100 #[.pointer (some ⟨b, 0, none⟩)] w fun x w' => x = .returned (.int .i64 (rdEnd s e)) ∧ w = w' := by
  have H := Lib.hid h
  obtain ⟨h1, h2, h3, h4⟩ := h
  by_cases he : e = 0
  · have he0 : (e != 0) = false := by simp [he]
    by_cases hz : 0 < s.size
    · have hr : Hid (rdEnd s e = 4) := by unfold Hid rdEnd; rw [if_neg (by omega), if_pos hz]
      have hz' : (0 : Int) < (s.size : Int) := by omega
      rw [hr.out]
      clear he
      go_enter Try.func100, Try.ntmps100
      go_wp2_with (go_at_call 99; refine (oct_err b s e _ H.out).mono ?_; rintro e w1 ⟨rfl, rfl⟩)
      go_ret
      exact ⟨rfl, rfl⟩
    · have hr : Hid (rdEnd s e = 0) := by unfold Hid rdEnd; rw [if_neg (by omega), if_neg hz]
      have hz' : ¬ (0 : Int) < (s.size : Int) := by omega
      rw [hr.out]
      clear he
      go_enter Try.func100, Try.ntmps100
      go_wp2_with (go_at_call 99; refine (oct_err b s e _ H.out).mono ?_; rintro e w1 ⟨rfl, rfl⟩)
      go_ret
      exact ⟨rfl, rfl⟩
  · have hr : Hid (rdEnd s e = e) := by unfold Hid rdEnd; rw [if_pos he]
    have he0 : (e != 0) = true := by simp [he]
    rw [hr.out]
    clear he
    go_enter Try.func100, Try.ntmps100
    go_wp2_with (go_at_call 99; refine (oct_err b s e _ H.out).mono ?_; rintro e w1 ⟨rfl, rfl⟩)
    go_ret
    exact ⟨rfl, rfl⟩
end Go.Proofs.Ytmpmfgkabjedpaa
