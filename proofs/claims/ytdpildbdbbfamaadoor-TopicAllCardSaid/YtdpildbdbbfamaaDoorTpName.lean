/- Layer 20: plain, Name. -/
import Derived.Test.YtdpildbdbbfamaaDoorTpRange2
namespace Go.Proofs.YtdpildbdbbfamaaDoor
open Go.RowKit Go.Shelf
set_option linter.unusedVariables false
set_option linter.unusedSimpArgs false
set_option maxRecDepth 100000
set_option maxHeartbeats 2000000
/-- may a rune be in a word? -/
def plainN (c : Nat) : Bool := (97 ≤ c && c ≤ 122) || (65 ≤ c && c ≤ 90) || (48 ≤ c && c ≤ 57) || c == 45 || c == 95
theorem tp_plain (c : Nat) (hc : c ≤ 1114111) (w : World) : Calls Tryd.prog 37 #[.int .i32 (c : Int)] w fun r w' => r = .returned (.bool (plainN c)) ∧ Gr w w' := by
  have hA : Hid (plainN c = ((97 ≤ c && c ≤ 122) || (65 ≤ c && c ≤ 90) || (48 ≤ c && c ≤ 57) || c == 45 || c == 95)) := rfl
  generalize plainN c = ans at *
  go_enter Tryd.func37, Tryd.ntmps37
  go_wp2
  all_goals go_ret
  all_goals (refine ⟨congrArg (fun b => Ending.returned (Value.bool b)) (?_ : _ = ans), Gr.refl _⟩)
  all_goals rw [hA.out]
  all_goals clear hA
  all_goals rw [Bool.eq_iff_iff]
  all_goals simp
  all_goals omega
theorem tp_name1 (w : World) : PredGrows Tryd.prog 36 #[] (fun c => !plainN c) w := by
  intro W c hc hb
  have cP := fun w1 => Lib.hid (tp_plain c hc w1)
  obtain ⟨pc, hpc⟩ : ∃ pc, pc = plainN c := ⟨_, rfl⟩
  rw [← hpc] at cP
  have HP := Lib.hid hpc
  clear hpc
  simp only [encR, Array.append_empty]
  go_enter Tryd.func36, Tryd.ntmps36
  go_wp2_with (go_at_call 37; refine (cP _).out.mono ?_; rintro e w' ⟨rfl, hg⟩)
  go_ret
  exact ⟨by show _ = Ending.returned (.bool (!plainN c)); rw [← HP.out]; rfl, hg⟩
def plainB (c : UInt8) : Bool := plainN c.toNat
theorem plain_high (n : Nat) (h : 128 ≤ n) : plainN n = false := by
  unfold plainN
  rw [Bool.eq_false_iff]
  intro h2
  simp at h2
  omega
theorem idx_plain (l : List UInt8) : ∀ (f pos : Nat), l.length ≤ pos + f → decide (0 ≤ Lib.idxFuncFrom (fun c => !plainN c) true (B l) f pos) = !((l.drop pos).all plainB)
  | 0, pos, h => by
    rw [Lib.idxFuncFrom, List.drop_of_length_le (by omega)]
    rfl
  | f + 1, pos, h => by
    rw [Lib.idxFuncFrom]
    by_cases hp : pos < (B l).size
    · rw [if_pos hp]
      have hl : pos < l.length := by rw [B_size] at hp; exact hp
      rw [List.drop_eq_getElem_cons hl, List.all_cons]
      have hb : (B l)[pos]'hp = l[pos] := rfl
      by_cases ha : l[pos].toNat < 128
      · have hd := Go.decode_ascii (B l) pos hp (by rw [hb]; exact ha)
        rw [hb] at hd
        rw [hd]
        cases hc : plainN l[pos].toNat with
        | true =>
          rw [if_neg (by simp [hc])]
          have hx : plainB l[pos] = true := hc
          rw [hx, Bool.true_and]
          exact idx_plain l f (pos + 1) (by omega)
        | false =>
          rw [if_pos (by simp [hc])]
          have hx : plainB l[pos] = false := hc
          rw [hx, Bool.false_and]
          simp
      · have hd := Go.decode_high (B l) pos hp (by rw [hb]; omega)
        rw [if_pos (by rw [plain_high _ hd.1]; rfl)]
        have hx : plainB l[pos] = false := plain_high _ (by omega)
        rw [hx, Bool.false_and]
        simp
    · rw [if_neg hp, List.drop_of_length_le (by rw [B_size] at hp; omega)]
      rfl
def nameB (s : List UInt8) : Bool := !s.isEmpty && decide (s.length ≤ 32) && s.all plainB
theorem tp_name (s : List UInt8) (w : World) : Calls Tryd.prog 16 #[.string (B s)] w fun r w' => r = .returned (.bool (nameB s)) ∧ Gr w w' := by
  have eg := enters_of Tryd.func36 (by kernel_rfl) rfl
  have cC := fun w1 => Lib.hid (Tryd.strings_ContainsFunc_grows 36 #[] eg (fun c => !plainN c) (B s) w1 (tp_name1 w1))
  have hi : decide (0 ≤ Lib.idxFunc (fun c => !plainN c) true (B s)) = !(s.all plainB) := by
    unfold Lib.idxFunc
    have h := idx_plain s (B s).size 0 (by rw [B_size]; omega)
    exact h
  rw [hi] at cC
  have hA : Hid (nameB s = (!s.isEmpty && decide (s.length ≤ 32) && s.all plainB)) := rfl
  have hz : ((B s).size : Int) = (s.length : Int) := by rw [B_size]
  have he : (B s).toList.isEmpty = s.isEmpty := by rw [ByteArray.toList_eq]; rfl
  generalize nameB s = ans at *
  generalize s.all plainB = al at *
  generalize s.isEmpty = em at *
  clear hi
  cases em <;> cases al
  all_goals go_enter Tryd.func16, Tryd.ntmps16
  all_goals go_wp2_with (go_at_call 35; refine (cC _).out.mono ?_; clear cC; rintro e w' ⟨rfl, hg⟩; have HG := Lib.hid hg; clear hg)
  all_goals go_ret
  all_goals (refine ⟨congrArg (fun b => Ending.returned (Value.bool b)) (?_ : _ = ans), by first | exact HG.out | exact Gr.refl _⟩)
  all_goals rw [hA.out]
  all_goals clear hA
  all_goals simp
  all_goals omega
end Go.Proofs.YtdpildbdbbfamaaDoor
