/- Layer 3: the reference's reader, walked. -/
import Derived.Test.YtckklikfikeokaaDoorOctText
namespace Go.Proofs.YtckklikfikeokaaDoor
open Go.RowKit
set_option linter.unusedVariables false
set_option linter.unusedSimpArgs false
set_option maxHeartbeats 400000
theorem rref_take (b : Nat) (s : ByteArray) (hs : s.size ≤ maxLen) (e n : Int) (w : World) (h : RdAt w b s e) :
    Calls Tryd.prog 57 #[.pointer (some ⟨b, 0, none⟩), .int .i64 n] w fun x w' => x = .returned (.string (rdTake s e n).1) ∧ RdAt w' b (rdTake s e n).2.1 (rdTake s e n).2.2 ∧ Ch b w w' := by
  have H := Lib.hid h
  obtain ⟨h1, h2, h3, h4⟩ := h
  unfold maxLen at hs
  by_cases he : e = 0
  · by_cases hn : n < 0 ∨ (s.size : Int) < n
    · have hr : Hid (rdTake s e n = (ByteArray.empty, s, 3)) := by unfold Hid rdTake; rw [if_neg (by omega), if_pos hn]
      have he0 : (e != 0) = false := by simp [he]
      rw [hr.out]
      clear he
      rcases hn with hn | hn
      all_goals
        go_enter Tryd.func57, Tryd.ntmps57
        go_wp2
        go_ret
        exact ⟨rfl, H.out.setE 3, (Ch.refl b w).setCell 1 _⟩
    · have hr : Hid (rdTake s e n = (s.extract 0 n.toNat, s.extract n.toNat s.size, e)) := by unfold Hid rdTake; rw [if_neg (by omega), if_neg hn]
      have he0 : (e != 0) = false := by simp [he]
      rw [hr.out]
      clear he
      have g1 : ¬ n < 0 := fun x => hn (.inl x)
      have g2 : ¬ (s.size : Int) < n := fun x => hn (.inr x)
      have g3 : 0 ≤ n := by omega
      have g4 : n ≤ (s.size : Int) := by omega
      clear hn
      go_enter Tryd.func57, Tryd.ntmps57
      go_wp2
      go_ret
      exact ⟨rfl, H.out.setS _, (Ch.refl b w).setCell 0 _⟩
  · have hr : Hid (rdTake s e n = (ByteArray.empty, s, e)) := by unfold Hid rdTake; rw [if_pos he]
    have he0 : (e != 0) = true := by simp [he]
    rw [hr.out]
    clear he
    go_enter Tryd.func57, Tryd.ntmps57
    go_wp2
    go_ret
    exact ⟨rfl, H.out, Ch.refl b w⟩
theorem Oct.mul_eq (m : Nat) (hm : m < 72057594037927936) (b : UInt8) : IntKind.u64.wrap ((m : Int) * 256 + IntKind.u64.wrap (b.toNat : Int)) = ((m * 256 + b.toNat : Nat) : Int) := by
  have hb := b.toNat_lt
  rw [wrap_u64_of b.toNat (by unfold U64; omega), show ((m : Int) * 256 + (b.toNat : Int)) = ((m * 256 + b.toNat : Nat) : Int) by omega, wrap_u64_of _ (by unfold U64; omega)]
theorem rref_num (b : Nat) (s : ByteArray) (hs : s.size ≤ maxLen) (e : Int) (k : Nat) (hk : k ≤ 8) (w : World) (h : RdAt w b s e) :
    Calls Tryd.prog 48 #[.pointer (some ⟨b, 0, none⟩), .int .i64 k] w fun x w' => x = .returned (.int .u64 (rdNum s e k).1) ∧ RdAt w' b (rdNum s e k).2.1 (rdNum s e k).2.2 ∧ Ch b w w' := by
  obtain ⟨t, s', e', hq⟩ : ∃ t s' e', rdTake s e k = (t, s', e') := ⟨_, _, _, rfl⟩
  have hz := (rdTake_size s e k).2.2
  have hT := rref_take b s hs e k w h
  have hN : rdNum s e k = (Oct.num t.data.toList, s', e') := by unfold rdNum; rw [hq]
  rw [hN]
  rw [hq] at hz hT
  have HT := Lib.hid hT
  have hts : t.size ≤ 8 := by simp only at hz; omega
  clear hz hq hT hN
  go_enter Tryd.func48, Tryd.ntmps48
  go_wp2_with (go_at_call 57; refine HT.out.mono ?_; rintro x w1 ⟨rfl, hr, hc⟩)
  have HR := Lib.hid (And.intro hr hc)
  clear hr hc
  go_loop [6, 7] (fun x i => ∃ j : Nat, j ≤ t.size ∧ i = .int .i64 j ∧ x = .int .u64 (Oct.num (t.data.toList.take j) : Nat)) (fun _ i => t.size - (intOf i).toNat)
  case atStart => exact ⟨0, by omega, rfl, rfl⟩
  case round =>
    obtain ⟨j, hj, rfl, rfl⟩ := hrel
    have HT := fun h => Lib.hid (Oct.num_take t j h)
    by_cases hlt : j < t.size
    · have hl := Oct.num_take_lt t j (by omega)
      generalize Oct.num (t.data.toList.take j) = m at *
      go_wp2
      go_round
      case rel => exact ⟨j + 1, by omega, by go_num, by rw [(HT hlt).out, Oct.mul_eq m hl]⟩
      case measure => simp [intOf]; omega
    · obtain rfl : j = t.size := by omega
      go_wp2
      go_ret
      exact ⟨ret_int (by rw [List.take_of_length_le (by simp)]), HR.out.1, HR.out.2⟩
end Go.Proofs.YtckklikfikeokaaDoor
