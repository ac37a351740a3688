/- The law OrderAfter, walked (printed by ordafter_gen.py). -/
import Derived.Test.YtckklikfikeokaaDoorOrdAwake
import Derived.Test.YtckklikfikeokaaDoorShelf
namespace Go.Proofs.YtckklikfikeokaaDoor
open Go.RowKit
set_option linter.unusedVariables false
set_option linter.unusedSimpArgs false
set_option maxRecDepth 100000
set_option maxHeartbeats 2000000
theorem bl_of (x y : List UInt8) : Op.bytesLess (B x).toList (B y).toList = decide (x < y) := by
  rw [Go.Proofs.bytesLess_eq, ByteArray.toList_eq, ByteArray.toList_eq]; rfl
theorem or_hasPrefix (x y : List UInt8) (v : Bool) (hv : v = true ↔ y <+: x) (w : World) : Calls Tryd.prog 13 #[.string (B x), .string (B y)] w fun r w' => r = .returned (.bool v) ∧ w = w' := by
  refine (Tryd.strings_HasPrefix (B x) (B y) w).mono ?_
  rintro e w' ⟨rfl, rfl⟩
  refine ⟨ret_bool ?_, rfl⟩
  unfold Lib.hasPrefix
  rw [B_list, B_list, Bool.eq_iff_iff, hv, List.isPrefixOf_iff_prefix]
theorem walk_OrderAfter_ (P S T : List UInt8) (hP : P.length ≤ maxLen) (hS : S.length ≤ maxLen) (hT : T.length ≤ maxLen) (w : World) :
    Calls Tryd.prog 5 #[.string (B P), .string (B S), .string (B T)] w fun e w' => e = .returned (.bool true) ∧ Gr w w' := by
  unfold maxLen at hP hS hT
  have zP := B_size P
  have zS := B_size S
  have zT := B_size T
  have cA := fun w1 => Lib.hid (law04_awake w1)
  by_cases h1 : P.length ≤ 400
  case neg =>
    have h1' : (400 : Int) < ((P.length : Nat) : Int) := by omega
    go_enter Tryd.func5, Tryd.ntmps5
    go_wp2_with (go_at_call 14; refine (cA _).out.mono ?_; clear cA; rintro r v1 ⟨rfl, hg⟩; have HG1 := Lib.hid hg; clear hg)
    go_ret
    exact ⟨rfl, HG1.out⟩
  have h1' : ¬ (400 : Int) < ((P.length : Nat) : Int) := by omega
  by_cases h2 : S.length ≤ 400
  case neg =>
    have h2' : (400 : Int) < ((S.length : Nat) : Int) := by omega
    go_enter Tryd.func5, Tryd.ntmps5
    go_wp2_with (go_at_call 14; refine (cA _).out.mono ?_; clear cA; rintro r v1 ⟨rfl, hg⟩; have HG1 := Lib.hid hg; clear hg)
    go_ret
    exact ⟨rfl, HG1.out⟩
  have h2' : ¬ (400 : Int) < ((S.length : Nat) : Int) := by omega
  by_cases h3 : T.length ≤ 400
  case neg =>
    have h3' : (400 : Int) < ((T.length : Nat) : Int) := by omega
    go_enter Tryd.func5, Tryd.ntmps5
    go_wp2_with (go_at_call 14; refine (cA _).out.mono ?_; clear cA; rintro r v1 ⟨rfl, hg⟩; have HG1 := Lib.hid hg; clear hg)
    go_ret
    exact ⟨rfl, HG1.out⟩
  have h3' : ¬ (400 : Int) < ((T.length : Nat) : Int) := by omega
  have cF := fun w1 => Lib.hid (or_after P (by omega) w1)
  have cN := fun w1 => Lib.hid (or_next (B S) (by omega) w1)
  have happ : B P ++ B S = B (P ++ S) := B_app P S
  have hnx : B S ++ ⟨#[0]⟩ = B (S ++ [0]) := B_app S [0]
  rw [hnx] at cN
  have b1 : Op.bytesLess (B (P ++ S)).toList (B P).toList = false := by rw [bl_of, decide_eq_false_iff_not]; exact not_lt_app P S
  have b2 : Op.bytesLess (B S).toList (B (S ++ [0])).toList = true := by rw [bl_of, decide_eq_true_iff, lt_app]; simp
  have b3 : Op.bytesLess (B S).toList (B T).toList = true → Op.bytesLess (B T).toList (B (S ++ [0])).toList = false := by
    rw [bl_of, bl_of, decide_eq_true_iff, decide_eq_false_iff_not]; exact no_between S T
  have hin := aft_in P.length P T 0 rfl
  have hinS := aft_in P.length P (P ++ S) 0 rfl
  rw [List.replicate_zero, List.append_nil] at hin hinS
  have hzz : ¬ (9223372036854775807 < (B P).size + (B S).size) := by omega
  rw [zP, zS] at hzz
  obtain ⟨xt, hxt⟩ : ∃ b, Op.bytesLess (B T).toList (B P).toList = b := ⟨_, rfl⟩
  obtain ⟨st, hst⟩ : ∃ b, Op.bytesLess (B S).toList (B T).toList = b := ⟨_, rfl⟩
  obtain ⟨tn, htn⟩ : ∃ b, Op.bytesLess (B T).toList (B (S ++ [0])).toList = b := ⟨_, rfl⟩
  rw [hst, htn] at b3
  have hxt2 : xt = decide (T < P) := by rw [← hxt, bl_of]
  generalize hN : B (S ++ [0]) = N at *
  generalize hPS : B (P ++ S) = PS at *
  have HN := Lib.hid hN
  have HPS := Lib.hid hPS
  clear hN hPS hnx
  have HIN := Lib.hid (And.intro hin hinS)
  clear hin hinS
  have HSN := Lib.hid b3
  clear b3
  cases ha : aftB P with
  | none =>
    have hans : aftAns P = (.empty, false) := by unfold aftAns; rw [ha]
    rw [hans] at cF
    simp only [ha] at HIN
    have HI2 : Hid (¬ T < P ↔ P <+: T) := HIN.out.1
    clear HIN hans ha
    simp only at cF
    have cH := fun w1 => Lib.hid (or_hasPrefix T P (!xt) (by rw [hxt2, ← HI2.out]; simp) w1)
    clear hxt2
    by_cases hx9 : xt = true
    · subst hx9
      rw [Bool.not_true] at cH
      by_cases hs9 : st = true
      · subst hs9
        obtain rfl : tn = false := HSN.out rfl
        go_enter Tryd.func5, Tryd.ntmps5
        go_wp2_with (first
          | (go_at_call 14; refine (cA _).out.mono ?_; clear cA; rintro r v1 ⟨rfl, hg⟩; have HG1 := Lib.hid hg; clear hg)
          | (go_at_call 20; refine (cF _).out.mono ?_; clear cF; rintro r v2 ⟨rfl, hg⟩; have HG2 := Lib.hid (HG1.out.trans hg); clear hg)
          | (go_at_call 21; refine (cN _).out.mono ?_; clear cN; rintro r v3 ⟨rfl, rfl⟩)
          | (go_at_call 13; refine (cH _).out.mono ?_; clear cH; rintro r v4 ⟨rfl, rfl⟩))
        go_ret
        exact ⟨rfl, HG2.out⟩
      · obtain rfl : st = false := by simpa using hs9
        go_enter Tryd.func5, Tryd.ntmps5
        go_wp2_with (first
          | (go_at_call 14; refine (cA _).out.mono ?_; clear cA; rintro r v1 ⟨rfl, hg⟩; have HG1 := Lib.hid hg; clear hg)
          | (go_at_call 20; refine (cF _).out.mono ?_; clear cF; rintro r v2 ⟨rfl, hg⟩; have HG2 := Lib.hid (HG1.out.trans hg); clear hg)
          | (go_at_call 21; refine (cN _).out.mono ?_; clear cN; rintro r v3 ⟨rfl, rfl⟩)
          | (go_at_call 13; refine (cH _).out.mono ?_; clear cH; rintro r v4 ⟨rfl, rfl⟩))
        go_ret
        exact ⟨rfl, HG2.out⟩
    · obtain rfl : xt = false := by simpa using hx9
      rw [Bool.not_false] at cH
      by_cases hs9 : st = true
      · subst hs9
        obtain rfl : tn = false := HSN.out rfl
        go_enter Tryd.func5, Tryd.ntmps5
        go_wp2_with (first
          | (go_at_call 14; refine (cA _).out.mono ?_; clear cA; rintro r v1 ⟨rfl, hg⟩; have HG1 := Lib.hid hg; clear hg)
          | (go_at_call 20; refine (cF _).out.mono ?_; clear cF; rintro r v2 ⟨rfl, hg⟩; have HG2 := Lib.hid (HG1.out.trans hg); clear hg)
          | (go_at_call 21; refine (cN _).out.mono ?_; clear cN; rintro r v3 ⟨rfl, rfl⟩)
          | (go_at_call 13; refine (cH _).out.mono ?_; clear cH; rintro r v4 ⟨rfl, rfl⟩))
        go_ret
        exact ⟨rfl, HG2.out⟩
      · obtain rfl : st = false := by simpa using hs9
        go_enter Tryd.func5, Tryd.ntmps5
        go_wp2_with (first
          | (go_at_call 14; refine (cA _).out.mono ?_; clear cA; rintro r v1 ⟨rfl, hg⟩; have HG1 := Lib.hid hg; clear hg)
          | (go_at_call 20; refine (cF _).out.mono ?_; clear cF; rintro r v2 ⟨rfl, hg⟩; have HG2 := Lib.hid (HG1.out.trans hg); clear hg)
          | (go_at_call 21; refine (cN _).out.mono ?_; clear cN; rintro r v3 ⟨rfl, rfl⟩)
          | (go_at_call 13; refine (cH _).out.mono ?_; clear cH; rintro r v4 ⟨rfl, rfl⟩))
        go_ret
        exact ⟨rfl, HG2.out⟩
  | some a =>
    have hans : aftAns P = (B a, true) := by unfold aftAns; rw [ha]
    rw [hans] at cF
    simp only [ha] at HIN
    have HI2 : Hid (¬ T < P ∧ T < a ↔ P <+: T) := HIN.out.1
    have b4 : Op.bytesLess PS.toList (B a).toList = true := by
      rw [← HPS.out, bl_of, decide_eq_true_iff]
      exact (HIN.out.2.2 ⟨S, rfl⟩).2
    clear HIN hans ha
    simp only at cF
    obtain ⟨ta, hta⟩ : ∃ b, Op.bytesLess (B T).toList (B a).toList = b := ⟨_, rfl⟩
    have hta2 : ta = decide (T < a) := by rw [← hta, bl_of]
    have cH := fun w1 => Lib.hid (or_hasPrefix T P (!xt && ta) (by rw [hxt2, hta2, ← HI2.out]; simp) w1)
    clear hxt2 hta2 HI2
    generalize B a = Ab at *
    by_cases hx9 : xt = true
    · subst hx9
      rw [Bool.not_true, Bool.false_and] at cH
      by_cases hs9 : st = true
      · subst hs9
        obtain rfl : tn = false := HSN.out rfl
        go_enter Tryd.func5, Tryd.ntmps5
        go_wp2_with (first
          | (go_at_call 14; refine (cA _).out.mono ?_; clear cA; rintro r v1 ⟨rfl, hg⟩; have HG1 := Lib.hid hg; clear hg)
          | (go_at_call 20; refine (cF _).out.mono ?_; clear cF; rintro r v2 ⟨rfl, hg⟩; have HG2 := Lib.hid (HG1.out.trans hg); clear hg)
          | (go_at_call 21; refine (cN _).out.mono ?_; clear cN; rintro r v3 ⟨rfl, rfl⟩)
          | (go_at_call 13; refine (cH _).out.mono ?_; clear cH; rintro r v4 ⟨rfl, rfl⟩))
        go_ret
        exact ⟨rfl, HG2.out⟩
      · obtain rfl : st = false := by simpa using hs9
        go_enter Tryd.func5, Tryd.ntmps5
        go_wp2_with (first
          | (go_at_call 14; refine (cA _).out.mono ?_; clear cA; rintro r v1 ⟨rfl, hg⟩; have HG1 := Lib.hid hg; clear hg)
          | (go_at_call 20; refine (cF _).out.mono ?_; clear cF; rintro r v2 ⟨rfl, hg⟩; have HG2 := Lib.hid (HG1.out.trans hg); clear hg)
          | (go_at_call 21; refine (cN _).out.mono ?_; clear cN; rintro r v3 ⟨rfl, rfl⟩)
          | (go_at_call 13; refine (cH _).out.mono ?_; clear cH; rintro r v4 ⟨rfl, rfl⟩))
        go_ret
        exact ⟨rfl, HG2.out⟩
    · obtain rfl : xt = false := by simpa using hx9
      rw [Bool.not_false, Bool.true_and] at cH
      by_cases ht9 : ta = true
      · subst ht9
        by_cases hs9 : st = true
        · subst hs9
          obtain rfl : tn = false := HSN.out rfl
          go_enter Tryd.func5, Tryd.ntmps5
          go_wp2_with (first
            | (go_at_call 14; refine (cA _).out.mono ?_; clear cA; rintro r v1 ⟨rfl, hg⟩; have HG1 := Lib.hid hg; clear hg)
            | (go_at_call 20; refine (cF _).out.mono ?_; clear cF; rintro r v2 ⟨rfl, hg⟩; have HG2 := Lib.hid (HG1.out.trans hg); clear hg)
            | (go_at_call 21; refine (cN _).out.mono ?_; clear cN; rintro r v3 ⟨rfl, rfl⟩)
            | (go_at_call 13; refine (cH _).out.mono ?_; clear cH; rintro r v4 ⟨rfl, rfl⟩))
          go_ret
          exact ⟨rfl, HG2.out⟩
        · obtain rfl : st = false := by simpa using hs9
          go_enter Tryd.func5, Tryd.ntmps5
          go_wp2_with (first
            | (go_at_call 14; refine (cA _).out.mono ?_; clear cA; rintro r v1 ⟨rfl, hg⟩; have HG1 := Lib.hid hg; clear hg)
            | (go_at_call 20; refine (cF _).out.mono ?_; clear cF; rintro r v2 ⟨rfl, hg⟩; have HG2 := Lib.hid (HG1.out.trans hg); clear hg)
            | (go_at_call 21; refine (cN _).out.mono ?_; clear cN; rintro r v3 ⟨rfl, rfl⟩)
            | (go_at_call 13; refine (cH _).out.mono ?_; clear cH; rintro r v4 ⟨rfl, rfl⟩))
          go_ret
          exact ⟨rfl, HG2.out⟩
      · obtain rfl : ta = false := by simpa using ht9
        by_cases hs9 : st = true
        · subst hs9
          obtain rfl : tn = false := HSN.out rfl
          go_enter Tryd.func5, Tryd.ntmps5
          go_wp2_with (first
            | (go_at_call 14; refine (cA _).out.mono ?_; clear cA; rintro r v1 ⟨rfl, hg⟩; have HG1 := Lib.hid hg; clear hg)
            | (go_at_call 20; refine (cF _).out.mono ?_; clear cF; rintro r v2 ⟨rfl, hg⟩; have HG2 := Lib.hid (HG1.out.trans hg); clear hg)
            | (go_at_call 21; refine (cN _).out.mono ?_; clear cN; rintro r v3 ⟨rfl, rfl⟩)
            | (go_at_call 13; refine (cH _).out.mono ?_; clear cH; rintro r v4 ⟨rfl, rfl⟩))
          go_ret
          exact ⟨rfl, HG2.out⟩
        · obtain rfl : st = false := by simpa using hs9
          go_enter Tryd.func5, Tryd.ntmps5
          go_wp2_with (first
            | (go_at_call 14; refine (cA _).out.mono ?_; clear cA; rintro r v1 ⟨rfl, hg⟩; have HG1 := Lib.hid hg; clear hg)
            | (go_at_call 20; refine (cF _).out.mono ?_; clear cF; rintro r v2 ⟨rfl, hg⟩; have HG2 := Lib.hid (HG1.out.trans hg); clear hg)
            | (go_at_call 21; refine (cN _).out.mono ?_; clear cN; rintro r v3 ⟨rfl, rfl⟩)
            | (go_at_call 13; refine (cH _).out.mono ?_; clear cH; rintro r v4 ⟨rfl, rfl⟩))
          go_ret
          exact ⟨rfl, HG2.out⟩
end Go.Proofs.YtckklikfikeokaaDoor
