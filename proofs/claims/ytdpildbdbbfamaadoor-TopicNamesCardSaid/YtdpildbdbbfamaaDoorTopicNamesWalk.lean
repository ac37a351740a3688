/- The law TopicNames: the walk. -/
import Derived.Test.YtdpildbdbbfamaaDoorTpLaw
import Derived.Test.YtdpildbdbbfamaaDoorTpEq
import Derived.Deep.RegionLaw
namespace Go.Proofs.YtdpildbdbbfamaaDoor
open Go.RowKit
set_option linter.unusedVariables false
set_option linter.unusedSimpArgs false
set_option maxRecDepth 100000
set_option maxHeartbeats 4000000
/-- the words' row: what is made for it, and that it is the document's -/
theorem walk_TopicNames_ (s : List UInt8) (kind : Int) (w : World) (hm : ∃ m, w.cell? ⟨0, 0, none⟩ = some (.int .i64 m)) : Calls Tryd.prog 5 #[.string (B s), .int .i64 kind] w fun e w' => e = .returned (.bool true) ∧ Gr w w' := by
  have cA := Lib.hid (law20_awake w hm)
  obtain ⟨m, hm⟩ := hm
  have hsz : ((B s).size : Int) ≤ 2000 → s.length ≤ 4000 := by
    rw [B_size]
    omega
  have cN1 := fun w1 => Lib.hid (tp_name s w1)
  have cN2 := fun w1 hs => Lib.hid (rf_name s hs w1)
  have cK1 := fun w1 hs h => Lib.hid (tp_key s hs w1 h)
  have cK2 := fun w1 hs => Lib.hid (rf_key s hs w1)
  have cP1 := fun w1 hs h => Lib.hid (tp_pattern s hs w1 h)
  have cP2 := fun w1 hs => Lib.hid (rf_pattern s hs w1)
  have cR1 := fun w1 hs h => Lib.hid (tp_right kind s hs w1 h)
  have cR2 := fun w1 hs => Lib.hid (rf_right kind s hs w1)
  have cW := fun w1 h => Lib.hid (tp_wordsW s w1 h)
  have cC := fun base v w0 w1 (h : WdAt base w1 v s) hb hg hs => Lib.hid (tp_collectW s hs base v w0 w1 h hb hg)
  have cV := fun w1 hs => Lib.hid (rw_words s hs w1)
  have hwl : s.length ≤ 4000 → (wordsL s).length ≤ 5000 := fun h => by
    have := words_len s
    omega
  have cE := fun hl A A2 c c2 w1 h1 h2 => Lib.hid (eq_same ((wordsL s).map B) hl A A2 c c2 w1 h1 h2)
  rw [List.length_map] at cE
  rw [rname_eq] at cN2
  rw [rkey_eq] at cK2
  rw [rpat_eq] at cP2
  rw [rright_eq] at cR2
  generalize nameB s = a1 at *
  generalize keyB s = a2 at *
  generalize patB s = a3 at *
  generalize rightB kind s = a4 at *
  generalize (wordsL s).map B = ws at *
  generalize (wordsL s).length = n at *
  have HSZ := Lib.hid hsz
  have HWL := Lib.hid hwl
  clear hsz hwl
  go_enter Tryd.func5, Tryd.ntmps5
  go_wp2_with (first
    | (go_at_call 6; refine cA.out.mono ?_; clear cA; rintro e w1 ⟨rfl, hg⟩; have H1 := Lib.hid hg; have hm1 := hg.cells hm; clear hg)
    | (have h200 := HSZ.out (by first | assumption | omega | (simp at *; omega)); go_at_call 16; refine (cN1 _).out.mono ?_; clear cN1; rintro e w2 ⟨rfl, hg⟩; have H2 := Lib.hid (H1.out.trans hg); have hm2 := hg.cells hm1; clear hg)
    | (go_at_call 17; refine (cN2 _ h200).out.mono ?_; clear cN2; rintro e w3 ⟨rfl, hg⟩; have H3 := Lib.hid (H2.out.trans hg); have hm3 := hg.cells hm2; clear hg)
    | (go_at_call 12; refine (cK1 _ h200 ⟨m, hm3⟩).out.mono ?_; clear cK1; rintro e w4 ⟨rfl, hg⟩; have H4 := Lib.hid (H3.out.trans hg); have hm4 := hg.cells hm3; clear hg)
    | (go_at_call 18; refine (cK2 _ h200).out.mono ?_; clear cK2; rintro e w5 ⟨rfl, hg⟩; have H5 := Lib.hid (H4.out.trans hg); have hm5 := hg.cells hm4; clear hg)
    | (go_at_call 13; refine (cP1 _ h200 ⟨m, hm5⟩).out.mono ?_; clear cP1; rintro e w6 ⟨rfl, hg⟩; have H6 := Lib.hid (H5.out.trans hg); have hm6 := hg.cells hm5; clear hg)
    | (go_at_call 19; refine (cP2 _ h200).out.mono ?_; clear cP2; rintro e w7 ⟨rfl, hg⟩; have H7 := Lib.hid (H6.out.trans hg); have hm7 := hg.cells hm6; clear hg)
    | (go_at_call 14; refine (cW _ ⟨m, hm7⟩).out.mono ?_; clear cW; rintro e w8 ⟨vW, rfl, hwd, hg⟩; have H8 := Lib.hid (And.intro (H7.out.trans hg) (And.intro hwd hg)); clear hg hwd)
    | (go_at_call 21; refine (cC _ _ w7 _ H8.out.2.1 (Nat.le_refl _) H8.out.2.2 h200).out.mono ?_; clear cC; rintro e w9 ⟨A1, c1, rfl, hs1, hg⟩; have H9 := Lib.hid (And.intro (H7.out.trans hg) hs1); have hm9 := hg.cells hm7; clear hg hs1)
    | (go_at_call 22; refine (cV _ h200).out.mono ?_; clear cV; rintro e w10 ⟨A2, c2, rfl, hs2, hc2, hc3, hg⟩; have H10 := Lib.hid (And.intro (H9.out.1.trans hg) (And.intro (H9.out.2.gr hg) hs2)); have hm10 := hg.cells hm9; clear hg hs2 hc2 hc3)
    | (go_at_call 20; refine (cE (HWL.out h200) _ _ _ _ _ H10.out.2.1 H10.out.2.2).out.mono ?_; clear cE; rintro e w11 ⟨rfl, hg⟩; have H11 := Lib.hid (H10.out.1.trans hg); have hm11 := hg.cells hm10; clear hg)
    | (go_at_call 23; refine (cR1 _ h200 ⟨m, hm11⟩).out.mono ?_; clear cR1; rintro e w12 ⟨rfl, hg⟩; have H12 := Lib.hid (H11.out.trans hg); clear hg)
    | (go_at_call 24; refine (cR2 _ h200).out.mono ?_; clear cR2; rintro e w13 ⟨rfl, hg⟩; have H13 := Lib.hid (H12.out.trans hg); clear hg))
  all_goals go_ret
  all_goals exact ⟨rfl, by first | exact H13.out | exact H1.out⟩
end Go.Proofs.YtdpildbdbbfamaaDoor
