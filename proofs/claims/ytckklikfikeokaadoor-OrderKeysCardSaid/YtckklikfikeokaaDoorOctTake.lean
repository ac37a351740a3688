/- Layer 3: the program's reader, walked: Take, Fail, Left, Err. -/
import Derived.Test.YtckklikfikeokaaDoorOctRd
namespace Go.Proofs.YtckklikfikeokaaDoor
open Go.RowKit
set_option linter.unusedVariables false
set_option linter.unusedSimpArgs false
set_option maxHeartbeats 400000
theorem oct_take (b : Nat) (s : ByteArray) (hs : s.size ≤ maxLen) (e n : Int) (w : World) (h : RdAt w b s e) :
    Calls Tryd.prog 62 #[.pointer (some ⟨b, 0, none⟩), .int .i64 n] w fun x w' => x = .returned (.string (rdTake s e n).1) ∧ RdAt w' b (rdTake s e n).2.1 (rdTake s e n).2.2 ∧ Ch b w w' := by
  have H := Lib.hid h
  obtain ⟨h1, h2, h3, h4⟩ := h
  unfold maxLen at hs
  by_cases he : e = 0
  · by_cases hn : n < 0 ∨ (s.size : Int) < n
    · have hr : Hid (rdTake s e n = (ByteArray.empty, s, 3)) := by unfold Hid rdTake; rw [if_neg (by omega), if_pos hn]
      have he0 : (e != 0) = false := by simp [he]
      rw [hr.out]
      clear he
      rcases hn with hn | hn
      all_goals
        go_enter Tryd.func62, Tryd.ntmps62
        go_wp2
        go_ret
        exact ⟨rfl, H.out.setE 3, (Ch.refl b w).setCell 1 _⟩
    · have hr : Hid (rdTake s e n = (s.extract 0 n.toNat, s.extract n.toNat s.size, e)) := by unfold Hid rdTake; rw [if_neg (by omega), if_neg hn]
      have he0 : (e != 0) = false := by simp [he]
      rw [hr.out]
      clear he
      have g1 : ¬ n < 0 := fun x => hn (.inl x)
      have g2 : ¬ (s.size : Int) < n := fun x => hn (.inr x)
      have g3 : 0 ≤ n := by omega
      have g4 : n ≤ (s.size : Int) := by omega
      clear hn
      go_enter Tryd.func62, Tryd.ntmps62
      go_wp2
      go_ret
      exact ⟨rfl, H.out.setS _, (Ch.refl b w).setCell 0 _⟩
  · have hr : Hid (rdTake s e n = (ByteArray.empty, s, e)) := by unfold Hid rdTake; rw [if_pos he]
    have he0 : (e != 0) = true := by simp [he]
    rw [hr.out]
    clear he
    go_enter Tryd.func62, Tryd.ntmps62
    go_wp2
    go_ret
    exact ⟨rfl, H.out, Ch.refl b w⟩
theorem oct_fail (b : Nat) (s : ByteArray) (e f : Int) (w : World) (h : RdAt w b s e) :
    Calls Tryd.prog 46 #[.pointer (some ⟨b, 0, none⟩), .int .i64 f] w fun x w' => x = .returned (.tuple #[]) ∧ RdAt w' b s (rdFail e f) ∧ Ch b w w' := by
  have H := Lib.hid h
  obtain ⟨h1, h2, h3, h4⟩ := h
  by_cases he : e = 0
  · have hr : Hid (rdFail e f = f) := by unfold Hid rdFail; rw [if_pos he]
    have he0 : (e == 0) = true := by simp [he]
    rw [hr.out]
    clear he
    go_enter Tryd.func46, Tryd.ntmps46
    go_wp2
    go_end0
    exact ⟨rfl, H.out.setE f, (Ch.refl b w).setCell 1 _⟩
  · have hr : Hid (rdFail e f = e) := by unfold Hid rdFail; rw [if_neg he]
    have he0 : (e == 0) = false := by simp [he]
    rw [hr.out]
    clear he
    go_enter Tryd.func46, Tryd.ntmps46
    go_wp2
    go_end0
    exact ⟨rfl, H.out, Ch.refl b w⟩
theorem oct_left (b : Nat) (s : ByteArray) (e : Int) (w : World) (h : RdAt w b s e) :
    Calls Tryd.prog 41 #[.pointer (some ⟨b, 0, none⟩)] w fun x w' => x = .returned (.int .i64 s.size) ∧ w = w' := by
  obtain ⟨h1, h2, h3, h4⟩ := h
  go_enter Tryd.func41, Tryd.ntmps41
  go_wp2
  go_ret
  exact ⟨rfl, rfl⟩
theorem oct_err (b : Nat) (s : ByteArray) (e : Int) (w : World) (h : RdAt w b s e) :
    Calls Tryd.prog 42 #[.pointer (some ⟨b, 0, none⟩)] w fun x w' => x = .returned (.int .i64 e) ∧ w = w' := by
  obtain ⟨h1, h2, h3, h4⟩ := h
  go_enter Tryd.func42, Tryd.ntmps42
  go_wp2
  go_ret
  exact ⟨rfl, rfl⟩
end Go.Proofs.YtckklikfikeokaaDoor
