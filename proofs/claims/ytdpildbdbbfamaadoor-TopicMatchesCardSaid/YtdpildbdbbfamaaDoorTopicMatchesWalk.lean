/- The law TopicMatches: the walk. -/
import Derived.Test.YtdpildbdbbfamaaDoorTpLaw
import Derived.Test.YtdpildbdbbfamaaDoorShelf
import Derived.Deep.RegionLaw
namespace Go.Proofs.YtdpildbdbbfamaaDoor
open Go.RowKit
set_option linter.unusedVariables false
set_option linter.unusedSimpArgs false
set_option maxRecDepth 100000
set_option maxHeartbeats 4000000
/-- behind the guard -/
theorem walk_TopicMatches_ (kind : Int) (p k : List UInt8) (w : World) (hm : ∃ m, w.cell? ⟨0, 0, none⟩ = some (.int .i64 m)) : Calls Tryd.prog 3 #[.int .i64 kind, .string (B p), .string (B k)] w fun e w' => e = .returned (.bool true) ∧ Gr w w' := by
  have cA := Lib.hid (law20_awake w hm)
  have nP := fun w1 => Lib.hid (Tryd.strings_Count_one (B p) 46 w1)
  have nK := fun w1 => Lib.hid (Tryd.strings_Count_one (B k) 46 w1)
  obtain ⟨m, hm⟩ := hm
  have hsz : (max ((B p).size : Int) ((B k).size : Int) ≤ 200) → p.length ≤ 4000 ∧ k.length ≤ 4000 := by
    rw [B_size, B_size]
    omega
  have cM := fun w1 hp hk h => Lib.hid (tp_matchA p k hp hk w1 h)
  have cR := fun w1 hp hk => Lib.hid (rf_matchA p k hp hk w1)
  have cF := fun w1 hp hk h => Lib.hid (tp_fits kind p k hp hk w1 h)
  have cG := fun w1 hp hk => Lib.hid (rf_fits kind p k hp hk w1)
  generalize mtL ((wordsL p).map B) ((wordsL k).map B) = a1 at *
  generalize ftB kind p k = a2 at *
  generalize Lib.countByte (B p).data.toList 46 = n1 at *
  generalize Lib.countByte (B k).data.toList 46 = n2 at *
  have HSZ := Lib.hid hsz
  clear hsz
  go_enter Tryd.func3, Tryd.ntmps3
  go_wp2_with (first
    | (go_at_call 6; refine cA.out.mono ?_; clear cA; rintro e w1 ⟨rfl, hg⟩; have H1 := Lib.hid hg; have hm1 := hg.cells hm; clear hg)
    | (go_at_call 7; refine (nP _).out.mono ?_; clear nP; rintro e w1 ⟨rfl, rfl⟩)
    | (go_at_call 7; refine (nK _).out.mono ?_; clear nK; rintro e w1 ⟨rfl, rfl⟩)
    | (have h200 := HSZ.out (by first | assumption | omega | (simp at *; omega)); go_at_call 8; refine (cM _ h200.1 h200.2 ⟨m, hm1⟩).out.mono ?_; clear cM; rintro e w2 ⟨rfl, hg⟩; have H2 := Lib.hid (H1.out.trans hg); have hm2 := hg.cells hm1; clear hg)
    | (go_at_call 9; refine (cR _ h200.1 h200.2).out.mono ?_; clear cR; rintro e w3 ⟨rfl, hg⟩; have H3 := Lib.hid (H2.out.trans hg); have hm3 := hg.cells hm2; clear hg)
    | (go_at_call 10; refine (cF _ h200.1 h200.2 ⟨m, hm3⟩).out.mono ?_; clear cF; rintro e w4 ⟨rfl, hg⟩; have H4 := Lib.hid (H3.out.trans hg); clear hg)
    | (go_at_call 11; refine (cG _ h200.1 h200.2).out.mono ?_; clear cG; rintro e w5 ⟨rfl, hg⟩; have H5 := Lib.hid (H4.out.trans hg); clear hg))
  all_goals go_ret
  all_goals exact ⟨rfl, by first | exact H5.out | exact H1.out⟩
end Go.Proofs.YtdpildbdbbfamaaDoor
