/- Layer 20: Fits; the chapter's examples. -/
import Derived.Test.YtdpildbdbbfamaaDoorTpMatch2
import Derived.Test.YtdpildbdbbfamaaDoorTpRefM
import Derived.Test.YtdpildbdbbfamaaDoorTpU
namespace Go.Proofs.YtdpildbdbbfamaaDoor
open Go.RowKit
set_option linter.unusedVariables false
set_option linter.unusedSimpArgs false
set_option maxRecDepth 100000
set_option maxHeartbeats 2000000
/-- whether a pattern of a kind means a key -/
def ftB (kind : Int) (p k : List UInt8) : Bool := if kind = 1 then (B p).toList == (B k).toList else if kind = 2 then true else if kind = 3 then mtL ((wordsL p).map B) ((wordsL k).map B) else false
theorem tp_fits (kind : Int) (p k : List UInt8) (hp : p.length ≤ 4000) (hkk : k.length ≤ 4000) (w : World) (hm : ∃ m, w.cell? ⟨0, 0, none⟩ = some (.int .i64 m)) : Calls Tryd.prog 10 #[.int .i64 kind, .string (B p), .string (B k)] w fun r w' => r = .returned (.bool (ftB kind p k)) ∧ Gr w w' := by
  have cM := Lib.hid (tp_matchA p k hp hkk w hm)
  have hA : Hid (ftB kind p k = if kind = 1 then (B p).toList == (B k).toList else if kind = 2 then true else if kind = 3 then mtL ((wordsL p).map B) ((wordsL k).map B) else false) := rfl
  generalize ftB kind p k = ans at *
  go_enter Tryd.func10, Tryd.ntmps10
  go_wp2_with (go_at_call 8; refine cM.out.mono ?_; rintro r w' ⟨rfl, hg⟩; have HG := Lib.hid hg; clear hg)
  all_goals go_ret
  all_goals (refine ⟨congrArg (fun b => Ending.returned (Value.bool b)) (?_ : _ = ans), ?_⟩; rotate_left)
  all_goals first | exact HG.out | exact Gr.refl _ | (have h := hA.out; clear hA; simp_all)
theorem rf_fits (kind : Int) (p k : List UInt8) (hp : p.length ≤ 4000) (hkk : k.length ≤ 4000) (w : World) : Calls Tryd.prog 11 #[.int .i64 kind, .string (B p), .string (B k)] w fun r w' => r = .returned (.bool (ftB kind p k)) ∧ Gr w w' := by
  have cM := fun w1 => Lib.hid (rf_matchA p k hp hkk w1)
  have hA : Hid (ftB kind p k = if kind = 1 then (B p).toList == (B k).toList else if kind = 2 then true else if kind = 3 then mtL ((wordsL p).map B) ((wordsL k).map B) else false) := rfl
  generalize ftB kind p k = ans at *
  go_enter Tryd.func11, Tryd.ntmps11
  go_wp2_with (go_at_call 9; refine (cM _).out.mono ?_; rintro r w' ⟨rfl, hg⟩; have HG := Lib.hid hg; clear hg)
  all_goals go_ret
  all_goals (refine ⟨congrArg (fun b => Ending.returned (Value.bool b)) (?_ : _ = ans), ?_⟩; rotate_left)
  all_goals first | exact HG.out | exact Gr.refl _ | (have h := hA.out; clear hA; simp_all)
theorem mt_ex1 : mtL ((wordsL [97, 46, 42, 46, 99]).map B) ((wordsL [97, 46, 98, 46, 99]).map B) = true := by rw [mt_U]; decide
theorem mt_ex2 : mtL ((wordsL [97, 46, 42, 46, 99]).map B) ((wordsL [97, 46, 99]).map B) = false := by rw [mt_U]; decide
theorem mt_ex3 : mtL ((wordsL [97, 46, 35]).map B) ((wordsL [97]).map B) = true := by rw [mt_U]; decide
theorem mt_ex4 : mtL ((wordsL [97, 46, 35]).map B) ((wordsL [97, 46, 98, 46, 99]).map B) = true := by rw [mt_U]; decide
theorem law20_awake (w : World) (hm : ∃ m, w.cell? ⟨0, 0, none⟩ = some (.int .i64 m)) : Calls Tryd.prog 6 #[] w fun r w' => r = .returned (.bool true) ∧ Gr w w' := by
  have c1 := fun w1 h => Lib.hid (tp_matchA [97, 46, 42, 46, 99] [97, 46, 98, 46, 99] (by decide) (by decide) w1 h)
  have c2 := fun w1 h => Lib.hid (tp_matchA [97, 46, 42, 46, 99] [97, 46, 99] (by decide) (by decide) w1 h)
  have c3 := fun w1 h => Lib.hid (tp_matchA [97, 46, 35] [97] (by decide) (by decide) w1 h)
  have c4 := fun w1 h => Lib.hid (tp_matchA [97, 46, 35] [97, 46, 98, 46, 99] (by decide) (by decide) w1 h)
  rw [mt_ex1] at c1
  rw [mt_ex2] at c2
  rw [mt_ex3] at c3
  rw [mt_ex4] at c4
  obtain ⟨m, hm⟩ := hm
  go_enter Tryd.func6, Tryd.ntmps6
  go_wp2_with (first
    | (go_at_call 8; refine (c1 _ ⟨m, hm⟩).out.mono ?_; clear c1; rintro e w1 ⟨rfl, hg⟩; have H1 := Lib.hid hg; clear hg)
    | (go_at_call 8; refine (c2 _ ⟨m, H1.out.cells hm⟩).out.mono ?_; clear c2; rintro e w2 ⟨rfl, hg⟩; have H2 := Lib.hid (H1.out.trans hg); clear hg)
    | (go_at_call 8; refine (c3 _ ⟨m, H2.out.cells hm⟩).out.mono ?_; clear c3; rintro e w3 ⟨rfl, hg⟩; have H3 := Lib.hid (H2.out.trans hg); clear hg)
    | (go_at_call 8; refine (c4 _ ⟨m, H3.out.cells hm⟩).out.mono ?_; clear c4; rintro e w4 ⟨rfl, hg⟩; have H4 := Lib.hid (H3.out.trans hg); clear hg))
  all_goals go_ret
  all_goals exact ⟨rfl, H4.out⟩
end Go.Proofs.YtdpildbdbbfamaaDoor
