/- Layer 4: a text's bytes; two parts, two rows compared. -/
import Derived.Test.YtckklikfikeokaaDoorOrdAwake
import Derived.Test.YtckklikfikeokaaDoorShelf
namespace Go.Proofs.YtckklikfikeokaaDoor
open Go.RowKit
set_option linter.unusedVariables false
set_option linter.unusedSimpArgs false
set_option maxRecDepth 100000
set_option maxHeartbeats 2000000
theorem replaceK_skip (c : UInt8) (hc : c ≠ 0) (new : List UInt8) (k : Nat) (l : List UInt8) : Lib.replaceK [0] new k (c :: l) = c :: Lib.replaceK [0] new k l := by
  cases k with
  | zero => rfl
  | succ k =>
    have hi : Lib.index (c :: l) [0] = if Lib.index l [0] == -1 then -1 else Lib.index l [0] + 1 := by
      rw [Lib.index]
      have : List.isPrefixOf [0] (c :: l) = false := by simp [List.isPrefixOf, Ne.symm hc]
      rw [this]; rfl
    rw [Lib.replaceK, Lib.replaceK, hi]
    by_cases hm : Lib.index l [0] = -1
    · simp [hm]
    · have hge := Lib.index_ge l [0]
      have h1 : (Lib.index l [0] == -1) = false := by simpa using hm
      have h2 : ((Lib.index l [0] + 1) == -1) = false := by rw [beq_eq_false_iff_ne]; omega
      rw [h1]
      simp only [Bool.false_eq_true, if_false, h2]
      have h3 : (Lib.index l [0] + 1).toNat = (Lib.index l [0]).toNat + 1 := by omega
      rw [h3]
      simp
theorem esc_replaceK : ∀ l : List UInt8, Lib.replaceK [0] [0, 255] (Lib.count l [0]) l = esc l
  | [] => by rw [Lib.count_one]; rfl
  | c :: l => by
    by_cases hc : c = 0
    · subst hc
      have hi : Lib.index (0 :: l) [0] = ((0 : Nat) : Int) := by
        rw [Lib.index]
        have : List.isPrefixOf [(0 : UInt8)] (0 :: l) = true := by simp [List.isPrefixOf]
        rw [this]; rfl
      rw [Lib.count_cons_eq, Nat.add_comm, Lib.replaceK_hit _ _ _ _ 0 hi]
      simp [esc, esc_replaceK l]
    · rw [Lib.count_cons_ne c 0 l hc, replaceK_skip c hc, esc_replaceK l]
      simp [esc, hc]
theorem esc_replaceAll (l : List UInt8) : Lib.replaceAll l [0] [0, 255] = esc l := by
  unfold Lib.replaceAll Lib.replace
  have h : (([0] : List UInt8) == [0, 255]) = false := by decide
  have hn : Lib.replaceNum l [0] (-1) = Lib.count l [0] := by unfold Lib.replaceNum; rw [if_pos (Or.inl (by decide))]
  rw [h, hn, if_neg (by decide), esc_replaceK l]
theorem esc_length (l : List UInt8) : (esc l).length ≤ 2 * l.length := by
  induction l with
  | nil => simp [esc]
  | cons c l ih => by_cases hc : c = 0 <;> simp [esc, hc] <;> omega
theorem pa_text (n : Nat) (s : ByteArray) (hs : s.size ≤ 10000) (w : World) (hml : ∃ m, w.cell? ⟨0, 0, none⟩ = some (.int .i64 m)) :
    Calls Tryd.prog 34 #[.agg #[.bool true, .int .u64 (n : Nat), .string s]] w fun r w' => r = .returned (.string (B (paB (true, n, s)))) ∧ Gr w w' := by
  have HB : Hid (B (paB (true, n, s)) = B (Oct.be 2 1) ++ B (esc s.data.toList) ++ ⟨#[0, 0]⟩) := by
    unfold Hid
    rw [show (⟨#[0, 0]⟩ : ByteArray) = B [0, 0] from rfl, B_app, B_app]; rfl
  generalize B (paB (true, n, s)) = q at *
  have hel := esc_length s.data.toList
  have hsl : s.data.toList.length = s.size := by simp
  have cO := fun w1 => Lib.hid (oct_one 2 (by omega) w1)
  have HML := Lib.hid hml
  clear hml
  have cR : ∀ w1, Gr w w1 → Hid (Calls Tryd.prog 51 #[.string s, .string ⟨#[0]⟩, .string ⟨#[0, 255]⟩] w1 fun r w' => r = .returned (.string (B (esc s.data.toList))) ∧ Gr w1 w') := by
    intro w1 hg
    obtain ⟨m, hm⟩ := HML.out
    have hc := Lib.countB_mul_le ⟨#[0]⟩ (by decide) s.size s (Nat.le_refl _)
    have h1 : (⟨#[0]⟩ : ByteArray).size = 1 := rfl
    have h2 : (⟨#[0, 255]⟩ : ByteArray).size = 2 := rfl
    rw [h1] at hc
    refine (Tryd.strings_ReplaceAll s ⟨#[0]⟩ ⟨#[0, 255]⟩ m w1 (by omega) (hg.cells hm) (by decide) (by rw [h2]; omega)).mono ?_
    rintro e w' ⟨rfl, hb⟩
    exact ⟨by rw [show (⟨#[0]⟩ : ByteArray).data.toList = [0] from rfl, show (⟨#[0, 255]⟩ : ByteArray).data.toList = [0, 255] from rfl, esc_replaceAll]; rfl, hb⟩
  have e1 : ((2 : Nat) : Int) = 2 := rfl
  simp only [e1] at cO
  clear e1
  have z1 := B_be_size 2 1
  have z2 := B_size (esc s.data.toList)
  rw [hsl] at hel
  generalize B (Oct.be 2 1) = g1 at *
  generalize (esc s.data.toList).length = el at *
  generalize B (esc s.data.toList) = g2 at *
  have hno : ¬ (9223372036854775807 < g1.size + g2.size) := by omega
  have hno2 : ¬ (9223372036854775807 < g1.size + g2.size + 2) := by omega
  rw [z1, z2] at hno hno2
  clear hsl
  have hw0 := heap_alloc_last w (.cells #[.bool true, .int .u64 (n : Nat), .string s] 30)
  have HW : Hid (Gr w (w.alloc (.cells #[.bool true, .int .u64 (n : Nat), .string s] 30))) := (Gr.refl w).alloc _
  go_enter Tryd.func34, Tryd.ntmps34
  have x0 := row_cell hw0 0 _ rfl
  have x2 := row_cell hw0 2 _ rfl
  clear hw0
  go_wp2
  generalize w.alloc (.cells #[.bool true, .int .u64 (n : Nat), .string s] 30) = W at *
  generalize w.heap.size = g at *
  have HQ := Lib.hid x2
  go_region_held3 (fun w' => w'.cell? ⟨g, 2, none⟩ = some (.string s)) (first | exact HQ.out | assumption)
    (first
      | (go_at_call 39; refine (cO _).out.mono ?_; clear cO; rintro r v1 ⟨rfl, hg⟩; have HV1 : Hid (Gr W v1) := (Gr.refl W).drew.trans hg; have HQ := Lib.hid (HV1.out.cells x2); clear hg)
      | (go_at_call 51; refine (cR _ (HW.out.trans HV1.out)).out.mono ?_; clear cR; rintro r v2 ⟨rfl, hg⟩; have HV2 : Hid (Gr W v2) := HV1.out.trans hg; have HQ := Lib.hid (HV2.out.cells x2); clear hg))
  go_wp2
  go_ret
  exact ⟨ret_str HB.out.symm, HW.out.trans HV2.out⟩
theorem pa_bytes (p : Pa) (hp : paOk p) (hs : p.2.2.size ≤ 10000) (w : World) (hml : ∃ m, w.cell? ⟨0, 0, none⟩ = some (.int .i64 m)) :
    Calls Tryd.prog 34 #[.agg #[.bool p.1, .int .u64 (p.2.1 : Nat), .string p.2.2]] w fun r w' => r = .returned (.string (B (paB p))) ∧ Gr w w' := by
  obtain ⟨t, n, s⟩ := p
  cases t
  · exact pa_num n hp s w
  · exact pa_text n s hs w hml
/-- what a comparing answers -/
noncomputable def sgn (a b : Bool) : Int := if a then -1 else if b then 1 else 0
theorem cmp_nan (s : ByteArray) (w : World) : Calls Tryd.prog 60 #[.string s] w fun r w' => r = .returned (.bool false) ∧ w = w' := by
  go_enter Tryd.func60, Tryd.ntmps60
  go_wp2
  go_ret
  exact ⟨rfl, rfl⟩
theorem cmp_nan64 (n : Nat) (w : World) : Calls Tryd.prog 61 #[.int .u64 (n : Nat)] w fun r w' => r = .returned (.bool false) ∧ w = w' := by
  go_enter Tryd.func61, Tryd.ntmps61
  go_wp2
  go_ret
  exact ⟨rfl, rfl⟩
theorem cmp_str (s t : ByteArray) (w : World) : Calls Tryd.prog 52 #[.string s, .string t] w fun r w' => r = .returned (.int .i64 (sgn (Op.bytesLess s.toList t.toList) (Op.bytesLess t.toList s.toList))) ∧ w = w' := by
  have c := fun s w1 => Lib.hid (cmp_nan s w1)
  cases h1 : Op.bytesLess s.toList t.toList with
  | true =>
    go_enter Tryd.func52, Tryd.ntmps52
    go_wp2_with (go_at_call 60; refine (c _ _).out.mono ?_; rintro r v ⟨rfl, rfl⟩)
    go_ret
    exact ⟨rfl, rfl⟩
  | false =>
    have hgt : (Op.bytesLess s.toList t.toList || s.toList == t.toList) = !Op.bytesLess t.toList s.toList := by
      rw [Go.Proofs.bytesLess_eq, Go.Proofs.bytesLess_eq]
      by_cases ha : s.toList = t.toList
      · rw [ha]; simp [List.lt_irrefl]
      · by_cases hb : s.toList < t.toList
        · have : ¬ t.toList < s.toList := fun h => List.lt_irrefl _ (List.lt_trans hb h)
          simp [hb, this]
        · have : t.toList < s.toList := by
            rcases List.le_iff_lt_or_eq.1 (List.not_lt.1 hb) with h | h
            · exact h
            · exact absurd h.symm ha
          simp [ha, hb, this]
    rw [h1, Bool.false_or] at hgt
    cases h2 : Op.bytesLess t.toList s.toList with
    | true =>
      rw [h2] at hgt
      simp only [Bool.not_true] at hgt
      go_enter Tryd.func52, Tryd.ntmps52
      go_wp2_with (go_at_call 60; refine (c _ _).out.mono ?_; rintro r v ⟨rfl, rfl⟩)
      go_ret
      exact ⟨rfl, rfl⟩
    | false =>
      rw [h2] at hgt
      simp only [Bool.not_false] at hgt
      go_enter Tryd.func52, Tryd.ntmps52
      go_wp2_with (go_at_call 60; refine (c _ _).out.mono ?_; rintro r v ⟨rfl, rfl⟩)
      go_ret
      exact ⟨rfl, rfl⟩
theorem cmp_u64 (n m : Nat) (w : World) : Calls Tryd.prog 53 #[.int .u64 (n : Nat), .int .u64 (m : Nat)] w fun r w' => r = .returned (.int .i64 (sgn (decide (n < m)) (decide (m < n)))) ∧ w = w' := by
  have c := fun s w1 => Lib.hid (cmp_nan64 s w1)
  by_cases h1 : n < m
  · have h1' : (n : Int) < (m : Int) := by omega
    have hd : decide (n < m) = true := by simpa using h1
    rw [hd]
    go_enter Tryd.func53, Tryd.ntmps53
    go_wp2_with (go_at_call 61; refine (c _ _).out.mono ?_; rintro r v ⟨rfl, rfl⟩)
    go_ret
    exact ⟨rfl, rfl⟩
  · have h1' : ¬ (n : Int) < (m : Int) := by omega
    have hd : decide (n < m) = false := by simpa using h1
    rw [hd]
    by_cases h2 : m < n
    · have h2' : (m : Int) < (n : Int) := by omega
      have hd2 : decide (m < n) = true := by simpa using h2
      rw [hd2]
      go_enter Tryd.func53, Tryd.ntmps53
      go_wp2_with (go_at_call 61; refine (c _ _).out.mono ?_; rintro r v ⟨rfl, rfl⟩)
      go_ret
      exact ⟨rfl, rfl⟩
    · have h2' : ¬ (m : Int) < (n : Int) := by omega
      have hd2 : decide (m < n) = false := by simpa using h2
      rw [hd2]
      go_enter Tryd.func53, Tryd.ntmps53
      go_wp2_with (go_at_call 61; refine (c _ _).out.mono ?_; rintro r v ⟨rfl, rfl⟩)
      go_ret
      exact ⟨rfl, rfl⟩
end Go.Proofs.YtckklikfikeokaaDoor
