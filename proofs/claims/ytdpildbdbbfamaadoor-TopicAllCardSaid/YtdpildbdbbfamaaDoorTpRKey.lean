/- Layer 20: the document's Key, Pattern, Right. -/
import Derived.Deep.RegionLaw
import Derived.Test.YtdpildbdbbfamaaDoorTpRef
import Derived.Test.YtdpildbdbbfamaaDoorTpRName
import Derived.Test.YtdpildbdbbfamaaDoorTpU
namespace Go.Proofs.YtdpildbdbbfamaaDoor
open Go.RowKit
set_option linter.unusedVariables false
set_option linter.unusedSimpArgs false
set_option maxRecDepth 100000
set_option maxHeartbeats 2000000
theorem words_len (s : List UInt8) : (wordsL s).length ≤ s.length + 1 := by
  unfold wordsL
  split
  · simp
  · have h1 := split_len s
    have h2 : s.count 46 ≤ s.length := List.count_le_length
    omega
theorem split_mem : ∀ (s x : List UInt8), x ∈ splitW s → x.length ≤ s.length
  | [], x, h => by
    simp [splitW] at h
    subst h
    simp
  | c :: s, x, h => by
    unfold splitW at h
    by_cases hc : c = 46
    · rw [if_pos hc] at h
      rcases List.mem_cons.1 h with rfl | h
      · simp
      · have := split_mem s x h
        simp
        omega
    · rw [if_neg hc] at h
      cases hs : splitW s with
      | nil => exact absurd hs (split_ne s)
      | cons w ws =>
        rw [hs] at h
        rcases List.mem_cons.1 h with rfl | h
        · have := split_mem s w (by rw [hs]; simp)
          simp
          omega
        · have := split_mem s x (by rw [hs]; exact List.mem_cons_of_mem _ h)
          simp
          omega
theorem words_mem (s x : List UInt8) (h : x ∈ wordsL s) : x.length ≤ s.length := by
  unfold wordsL at h
  split at h
  · simp at h
  · exact split_mem s x h
def rpatW (w : List UInt8) : Bool := w == [42] || w == [35] || rnameB w
def rkeyB (s : List UInt8) : Bool := (wordsL s).all rnameB && decide ((wordsL s).length ≤ 8)
def rpatB (s : List UInt8) : Bool := (wordsL s).all rpatW && decide ((wordsL s).length ≤ 8)
theorem rf_key (s : List UInt8) (hs : s.length ≤ 4000) (w : World) : Calls Tryd.prog 18 #[.string (B s)] w fun r w' => r = .returned (.bool (rkeyB s)) ∧ Gr w w' := by
  have cW := Lib.hid (rw_words s hs w)
  have hwl := words_len s
  have hA : Hid (rkeyB s = ((wordsL s).all rnameB && decide ((wordsL s).length ≤ 8))) := rfl
  have hwm := Lib.hid (words_mem s)
  generalize rkeyB s = ans at *
  obtain ⟨ws, hws⟩ : ∃ ws, wordsL s = ws := ⟨_, rfl⟩
  rw [hws] at hA hwl cW
  have HWM : Hid (∀ x ∈ ws, x.length ≤ s.length) := by rw [← hws]; exact hwm.out
  clear hwm hws
  obtain ⟨l, hl⟩ : ∃ l, ws.length = l := ⟨_, rfl⟩
  rw [hl] at cW hwl
  have HL := Lib.hid hl
  clear hl
  have HS := Lib.hid hs
  clear hs
  go_enter Tryd.func18, Tryd.ntmps18
  go_wp2_with (go_at_call 22; refine cW.out.mono ?_; clear cW; rintro e v1 ⟨A, cap, rfl, hsl, hcap, hcm, hg⟩; have HX := Lib.hid (And.intro hsl hg); clear hsl hg)
  have hs4 := HS.out
  go_loopw [10] (fun i wr => ∃ k : Nat, k ≤ l ∧ i = .int .i64 (k : Nat) ∧ Hid ((ws.take k).all rnameB = true ∧ Gr v1 wr)) (fun i _ => l - (intOf i).toNat)
  case atStart => exact ⟨0, by omega, rfl, rfl, Gr.refl _⟩
  case round =>
    obtain ⟨k, hk, rfl, HR⟩ := hrel
    have hgw : Hid (Gr w wr) := HX.out.2.trans HR.out.2
    by_cases hlt : k < l
    case neg =>
      obtain rfl : k = l := by omega
      have HAL : Hid (ws.all rnameB = true) := by
        have h := HR.out.1
        rw [List.take_of_length_le (by rw [HL.out]; omega)] at h
        exact h
      go_wp2
      all_goals go_ret
      all_goals (refine ⟨congrArg (fun b => Ending.returned (Value.bool b)) (?_ : _ = ans), hgw.out⟩)
      all_goals rw [hA.out, HAL.out, HL.out]
      all_goals first | (simp; done) | (simp; omega) | (rw [Bool.eq_iff_iff]; simp; omega)
    rcases (HX.out.1.gr HR.out.2) with h0 | ⟨a, off, rfl, hcell⟩
    · exact absurd (congrArg List.length h0) (by rw [List.length_map, HL.out]; simp; omega)
    have hlt2 : k < ws.length := by rw [HL.out]; exact hlt
    have hget : (ws.map B)[k]? = some (B ws[k]) := by rw [List.getElem?_map, List.getElem?_eq_getElem hlt2]; rfl
    have a0 := hcell k _ hget 0 _ rfl
    simp only [Nat.add_zero, Nat.mul_one] at a0
    have hmem : ws[k] ∈ ws := List.getElem_mem hlt2
    have hxl := HWM.out _ hmem
    have htk : (ws.take (k + 1)).all rnameB = ((ws.take k).all rnameB && rnameB ws[k]) := by
      rw [List.take_succ_eq_append_getElem hlt2, List.all_append]
      simp
    rw [HR.out.1, Bool.true_and] at htk
    have hno : rnameB ws[k] = false → ws.all rnameB = false := fun h => by
      rw [Bool.eq_false_iff]
      intro h2
      rw [List.all_eq_true] at h2
      rw [h2 _ hmem] at h
      cases h
    have cN := fun w1 => Lib.hid (rf_name ws[k] (by omega) w1)
    generalize ws[k] = x at *
    obtain ⟨sx, hsx⟩ : ∃ sx, rnameB x = sx := ⟨_, rfl⟩
    rw [hsx] at htk hno
    have HT := Lib.hid (And.intro htk (And.intro hno hsx))
    clear htk hno hsx hget hcell hmem hxl hlt2
    have hlt' : ((k : Nat) : Int) < ((l : Nat) : Int) := by omega
    have hr : rnameB x = sx := HT.out.2.2
    rw [hr] at cN
    clear hr
    cases sx with
    | true =>
      go_wp2_with (go_at_call 17; refine (cN _).out.mono ?_; clear cN; rintro e w2 ⟨rfl, hg⟩; have HG := Lib.hid (HR.out.2.trans hg); clear hg)
      go_roundw
      case rel => exact ⟨k + 1, by omega, by go_num, HT.out.1, HG.out⟩
      case measure => (simp [intOf]; try omega)
    | false =>
      go_wp2_with (go_at_call 17; refine (cN _).out.mono ?_; clear cN; rintro e w2 ⟨rfl, hg⟩; have HG := Lib.hid (HX.out.2.trans (HR.out.2.trans hg)); clear hg)
      go_ret
      exact ⟨by rw [hA.out, HT.out.2.1 (by first | rfl | trivial)]; rfl, HG.out⟩
theorem rf_pattern (s : List UInt8) (hs : s.length ≤ 4000) (w : World) : Calls Tryd.prog 19 #[.string (B s)] w fun r w' => r = .returned (.bool (rpatB s)) ∧ Gr w w' := by
  have cW := Lib.hid (rw_words s hs w)
  have hwl := words_len s
  have hA : Hid (rpatB s = ((wordsL s).all rpatW && decide ((wordsL s).length ≤ 8))) := rfl
  have hwm := Lib.hid (words_mem s)
  generalize rpatB s = ans at *
  obtain ⟨ws, hws⟩ : ∃ ws, wordsL s = ws := ⟨_, rfl⟩
  rw [hws] at hA hwl cW
  have HWM : Hid (∀ x ∈ ws, x.length ≤ s.length) := by rw [← hws]; exact hwm.out
  clear hwm hws
  obtain ⟨l, hl⟩ : ∃ l, ws.length = l := ⟨_, rfl⟩
  rw [hl] at cW hwl
  have HL := Lib.hid hl
  clear hl
  have HS := Lib.hid hs
  clear hs
  go_enter Tryd.func19, Tryd.ntmps19
  go_wp2_with (go_at_call 22; refine cW.out.mono ?_; clear cW; rintro e v1 ⟨A, cap, rfl, hsl, hcap, hcm, hg⟩; have HX := Lib.hid (And.intro hsl hg); clear hsl hg)
  have hs4 := HS.out
  go_loopw [10] (fun i wr => ∃ k : Nat, k ≤ l ∧ i = .int .i64 (k : Nat) ∧ Hid ((ws.take k).all rpatW = true ∧ Gr v1 wr)) (fun i _ => l - (intOf i).toNat)
  case atStart => exact ⟨0, by omega, rfl, rfl, Gr.refl _⟩
  case round =>
    obtain ⟨k, hk, rfl, HR⟩ := hrel
    have hgw : Hid (Gr w wr) := HX.out.2.trans HR.out.2
    by_cases hlt : k < l
    case neg =>
      obtain rfl : k = l := by omega
      have HAL : Hid (ws.all rpatW = true) := by
        have h := HR.out.1
        rw [List.take_of_length_le (by rw [HL.out]; omega)] at h
        exact h
      go_wp2
      all_goals go_ret
      all_goals (refine ⟨congrArg (fun b => Ending.returned (Value.bool b)) (?_ : _ = ans), hgw.out⟩)
      all_goals rw [hA.out, HAL.out, HL.out]
      all_goals first | (simp; done) | (simp; omega) | (rw [Bool.eq_iff_iff]; simp; omega)
    rcases (HX.out.1.gr HR.out.2) with h0 | ⟨a, off, rfl, hcell⟩
    · exact absurd (congrArg List.length h0) (by rw [List.length_map, HL.out]; simp; omega)
    have hlt2 : k < ws.length := by rw [HL.out]; exact hlt
    have hget : (ws.map B)[k]? = some (B ws[k]) := by rw [List.getElem?_map, List.getElem?_eq_getElem hlt2]; rfl
    have a0 := hcell k _ hget 0 _ rfl
    simp only [Nat.add_zero, Nat.mul_one] at a0
    have hmem : ws[k] ∈ ws := List.getElem_mem hlt2
    have hxl := HWM.out _ hmem
    have htk : (ws.take (k + 1)).all rpatW = ((ws.take k).all rpatW && rpatW ws[k]) := by
      rw [List.take_succ_eq_append_getElem hlt2, List.all_append]
      simp
    rw [HR.out.1, Bool.true_and] at htk
    have hno : rpatW ws[k] = false → ws.all rpatW = false := fun h => by
      rw [Bool.eq_false_iff]
      intro h2
      rw [List.all_eq_true] at h2
      rw [h2 _ hmem] at h
      cases h
    have cN := fun w1 => Lib.hid (rf_name ws[k] (by omega) w1)
    generalize ws[k] = x at *
    obtain ⟨sx, hsx⟩ : ∃ sx, rpatW x = sx := ⟨_, rfl⟩
    rw [hsx] at htk hno
    have HT := Lib.hid (And.intro htk (And.intro hno hsx))
    clear htk hno hsx hget hcell hmem hxl hlt2
    have hlt' : ((k : Nat) : Int) < ((l : Nat) : Int) := by omega
    have h1 : ((B x).toList == [42]) = (x == [42]) := by rw [ByteArray.toList_eq]; rfl
    have h2 : ((B x).toList == [35]) = (x == [35]) := by rw [ByteArray.toList_eq]; rfl
    have h3 : (¬ (B x).toList = [42]) = ((x == [42]) = false) := by rw [← h1, beq_eq_false_iff_ne]
    have h4 : (¬ (B x).toList = [35]) = ((x == [35]) = false) := by rw [← h2, beq_eq_false_iff_ne]
    have h5 : ((B x).toList = [42]) = ((x == [42]) = true) := by rw [← h1, beq_iff_eq]
    have h6 : ((B x).toList = [35]) = ((x == [35]) = true) := by rw [← h2, beq_iff_eq]
    have hsx : sx = (x == [42] || x == [35] || rnameB x) := HT.out.2.2.symm
    generalize (x == [42]) = b1 at *
    generalize (x == [35]) = b2 at *
    generalize rnameB x = b3 at *
    have HSX := Lib.hid hsx
    clear hsx
    cases b1 <;> cases b2 <;> cases b3
    all_goals
      obtain rfl := HSX.out
      simp only [Bool.false_eq_true, Bool.true_eq_false, eq_self, Bool.or_false, Bool.or_true, Bool.or_self] at h3 h4 h5 h6 HT
      clear HSX
      go_wp2_with (go_at_call 17; refine (cN _).out.mono ?_; clear cN; rintro e w2 ⟨rfl, hg⟩; have HG := Lib.hid (HR.out.2.trans hg); have HG2 := Lib.hid (HX.out.2.trans (HR.out.2.trans hg)); clear hg)
      first
      | (go_ret; exact ⟨by rw [hA.out, HT.out.2.1 (by first | rfl | trivial)]; rfl, HG2.out⟩)
      | (go_roundw
         case rel => exact ⟨k + 1, by omega, by go_num, HT.out.1, by first | exact HG.out | exact HR.out.2⟩
         case measure => (simp [intOf]; try omega))
def rrightB (kind : Int) (s : List UInt8) : Bool := if kind = 1 then rkeyB s else if kind = 2 then s.isEmpty else if kind = 3 then rpatB s else false
theorem rf_right (kind : Int) (s : List UInt8) (hs : s.length ≤ 4000) (w : World) : Calls Tryd.prog 24 #[.int .i64 kind, .string (B s)] w fun r w' => r = .returned (.bool (rrightB kind s)) ∧ Gr w w' := by
  have cK := fun w1 => Lib.hid (rf_key s hs w1)
  have cP := fun w1 => Lib.hid (rf_pattern s hs w1)
  have hA : Hid (rrightB kind s = if kind = 1 then rkeyB s else if kind = 2 then s.isEmpty else if kind = 3 then rpatB s else false) := rfl
  have he : (B s).toList.isEmpty = s.isEmpty := by rw [ByteArray.toList_eq]; rfl
  generalize rrightB kind s = ans at *
  generalize rkeyB s = k at *
  generalize rpatB s = p at *
  generalize s.isEmpty = em at *
  go_enter Tryd.func24, Tryd.ntmps24
  go_wp2_with (first
    | (go_at_call 18; refine (cK _).out.mono ?_; rintro r w' ⟨rfl, hg⟩; have HG := Lib.hid hg; clear hg)
    | (go_at_call 19; refine (cP _).out.mono ?_; rintro r w' ⟨rfl, hg⟩; have HG := Lib.hid hg; clear hg))
  all_goals go_ret
  all_goals (refine ⟨congrArg (fun b => Ending.returned (Value.bool b)) (?_ : _ = ans), ?_⟩; rotate_left)
  all_goals first | exact HG.out | exact Gr.refl _ | (have h := hA.out; clear hA; simp_all)
end Go.Proofs.YtdpildbdbbfamaaDoor
