/- Layer 20: Key, Pattern, Right. -/
import Derived.Test.YtdpildbdbbfamaaDoorTpAllP
import Derived.Test.YtdpildbdbbfamaaDoorTpU
namespace Go.Proofs.YtdpildbdbbfamaaDoor
open Go.RowKit Go.Shelf
set_option linter.unusedVariables false
set_option linter.unusedSimpArgs false
set_option maxRecDepth 100000
set_option maxHeartbeats 2000000
def keyB (s : List UInt8) : Bool := allB nameB s
def patW (w : List UInt8) : Bool := w == [42] || w == [35] || nameB w
def patB (s : List UInt8) : Bool := allB patW s
theorem tp_key (s : List UInt8) (hs : s.length ≤ 4000) (w : World) (hm : ∃ m, w.cell? ⟨0, 0, none⟩ = some (.int .i64 m)) : Calls Tryd.prog 12 #[.string (B s)] w fun r w' => r = .returned (.bool (keyB s)) ∧ Gr w w' := by
  have c := Lib.hid (tp_allAN nameB tp_name s hs w hm)
  have hA : keyB s = allB nameB s := rfl
  rw [hA]
  clear hA
  generalize allB nameB s = a at *
  go_enter Tryd.func12, Tryd.ntmps12
  go_wp2_with (go_at_call 30; refine c.out.mono ?_; rintro e w' ⟨rfl, hg⟩)
  go_ret
  exact ⟨rfl, hg⟩
theorem tp_pat1 (x : List UInt8) (w : World) : Calls Tryd.prog 31 #[.string (B x)] w fun r w' => r = .returned (.bool (patW x)) ∧ Gr w w' := by
  have c := fun w1 => Lib.hid (tp_name x w1)
  have h1 : ((B x).toList == [42]) = (x == [42]) := by rw [ByteArray.toList_eq]; rfl
  have h2 : ((B x).toList == [35]) = (x == [35]) := by rw [ByteArray.toList_eq]; rfl
  have h3 : (¬ (B x).toList = [42]) = ((x == [42]) = false) := by rw [← h1, beq_eq_false_iff_ne]
  have h4 : (¬ (B x).toList = [35]) = ((x == [35]) = false) := by rw [← h2, beq_eq_false_iff_ne]
  have h5 : ((B x).toList = [42]) = ((x == [42]) = true) := by rw [← h1, beq_iff_eq]
  have h6 : ((B x).toList = [35]) = ((x == [35]) = true) := by rw [← h2, beq_iff_eq]
  have hA : patW x = (x == [42] || x == [35] || nameB x) := rfl
  rw [hA]
  clear hA
  generalize (x == [42]) = a at *
  generalize (x == [35]) = b at *
  generalize nameB x = n at *
  cases a <;> cases b <;> cases n
  all_goals
    simp only [Bool.false_eq_true, Bool.true_eq_false, eq_self, Bool.or_false, Bool.or_true, Bool.or_self] at h3 h4 h5 h6
    go_enter Tryd.func31, Tryd.ntmps31
    go_wp2_with (go_at_call 16; refine (c _).out.mono ?_; clear c; rintro e w' ⟨rfl, hg⟩; have HG := Lib.hid hg; clear hg)
    go_ret
    exact ⟨rfl, by first | exact HG.out | exact Gr.refl _⟩
theorem tp_pattern (s : List UInt8) (hs : s.length ≤ 4000) (w : World) (hm : ∃ m, w.cell? ⟨0, 0, none⟩ = some (.int .i64 m)) : Calls Tryd.prog 13 #[.string (B s)] w fun r w' => r = .returned (.bool (patB s)) ∧ Gr w w' := by
  have c := Lib.hid (tp_allAP patW tp_pat1 s hs w hm)
  have hA : patB s = allB patW s := rfl
  rw [hA]
  clear hA
  generalize allB patW s = a at *
  go_enter Tryd.func13, Tryd.ntmps13
  go_wp2_with (go_at_call 30; refine c.out.mono ?_; rintro e w' ⟨rfl, hg⟩)
  go_ret
  exact ⟨rfl, hg⟩
def rightB (kind : Int) (s : List UInt8) : Bool := if kind = 1 then keyB s else if kind = 2 then s.isEmpty else if kind = 3 then patB s else false
theorem tp_right (kind : Int) (s : List UInt8) (hs : s.length ≤ 4000) (w : World) (hm : ∃ m, w.cell? ⟨0, 0, none⟩ = some (.int .i64 m)) : Calls Tryd.prog 23 #[.int .i64 kind, .string (B s)] w fun r w' => r = .returned (.bool (rightB kind s)) ∧ Gr w w' := by
  have cK := Lib.hid (tp_key s hs w hm)
  have cP := Lib.hid (tp_pattern s hs w hm)
  have hA : Hid (rightB kind s = if kind = 1 then keyB s else if kind = 2 then s.isEmpty else if kind = 3 then patB s else false) := rfl
  have he : (B s).toList.isEmpty = s.isEmpty := by rw [ByteArray.toList_eq]; rfl
  generalize rightB kind s = ans at *
  generalize keyB s = k at *
  generalize patB s = p at *
  generalize s.isEmpty = em at *
  go_enter Tryd.func23, Tryd.ntmps23
  go_wp2_with (first
    | (go_at_call 12; refine cK.out.mono ?_; rintro r w' ⟨rfl, hg⟩; have HG := Lib.hid hg; clear hg)
    | (go_at_call 13; refine cP.out.mono ?_; rintro r w' ⟨rfl, hg⟩; have HG := Lib.hid hg; clear hg))
  all_goals go_ret
  all_goals (refine ⟨congrArg (fun b => Ending.returned (Value.bool b)) (?_ : _ = ans), ?_⟩; rotate_left)
  all_goals first | exact HG.out | exact Gr.refl _ | (have h := hA.out; clear hA; simp_all)
end Go.Proofs.YtdpildbdbbfamaaDoor
