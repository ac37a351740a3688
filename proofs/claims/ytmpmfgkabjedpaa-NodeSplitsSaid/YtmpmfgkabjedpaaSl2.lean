/- Layer 6: what a leaf's and a branch's shapes do to a cell. -/
import Derived.Test.YtmpmfgkabjedpaaSl1
namespace Go.Proofs.Ytmpmfgkabjedpaa
open Go.RowKit
set_option linter.unusedVariables false
set_option linter.unusedSimpArgs false
set_option maxRecDepth 100000
set_option maxHeartbeats 4000000
theorem row_cell {w : World} {g : Nat} {t : TypeId} {cs : Array Value} (h : w.heap[g]? = some (.cells cs t (0, 0))) (i : Nat) (v : Value) (hv : cs[i]? = some v) : w.cell? ⟨g, i, none⟩ = some v := by
  rw [cell_of_row _ _ i _ _ _ h]; exact hv
theorem lt_of_row {w : World} {k : Nat} {o : Obj} (h : w.heap[k]? = some o) : k < w.heap.size := by
  rcases Nat.lt_or_ge k w.heap.size with h2 | h2
  · exact h2
  · rw [Array.getElem?_eq_none h2] at h; cases h
theorem sl_putCell (k v : ByteArray) (c l : Nat) (hk : k.size ≤ 60000) (hv : v.size ≤ 60000) (hc : c < 4294967296) (hl : l < 4294967296) (w : World) :
    Calls Try.prog 68 #[.agg #[.string k, .string v, .int .u32 (c : Nat), .int .u32 (l : Nat)]] w fun r w' => r = .returned (.string (ceBytes (k, v, c, l))) ∧ Gr w w' := by
  have cK := fun w1 => Lib.hid (sl_putKey k (by omega) w1)
  have zk := keyBytes_size k
  have hw0 := heap_alloc_last w (.cells #[.string k, .string v, .int .u32 (c : Nat), .int .u32 (l : Nat)] 59)
  have HW : Hid (Gr w (w.alloc (.cells #[.string k, .string v, .int .u32 (c : Nat), .int .u32 (l : Nat)] 59))) := (Gr.refl w).alloc _
  by_cases h0 : c = 0
  · subst h0
    have HB : Hid (ceBytes (k, v, 0, l) = keyBytes k ++ B (Oct.be 0 1) ++ B (Oct.be (clipB v 65535).size 2) ++ clipB v 65535) := by unfold Hid ceBytes; rw [if_neg (by simp)]
    have hz := clipB_size v 65535
    have cC := fun w1 => Lib.hid (sl_clip v (by omega) 65535 (by omega) w1)
    have cO := fun w1 => Lib.hid (oct_one 0 (by omega) w1)
    have cT := fun w1 => Lib.hid (oct_two (clipB v 65535).size (by omega) w1)
    have z1 := B_be_size 0 1
    have z2 := B_be_size (clipB v 65535).size 2
    have hle : (clipB v 65535).size ≤ 60000 := by omega
    have hw : IntKind.u16.wrap (((clipB v 65535).size : Nat) : Int) = (((clipB v 65535).size : Nat) : Int) := by rw [IntKind.wrap_u16]; omega
    have e0 : ((65535 : Nat) : Int) = 65535 := rfl
    have e1 : ((0 : Nat) : Int) = 0 := rfl
    simp only [e0] at cC
    simp only [e1] at cO HW hw0 ⊢
    clear hz
    generalize clipB v 65535 = cv at *
    generalize keyBytes k = g1 at *
    generalize B (Oct.be 0 1) = g2 at *
    generalize B (Oct.be cv.size 2) = g3 at *
    generalize ceBytes (k, v, 0, l) = q at *
    have y1 : ¬ (9223372036854775807 < g1.size + g2.size) := by omega
    have y2 : ¬ (9223372036854775807 < g1.size + g2.size + g3.size) := by omega
    have y3 : ¬ (9223372036854775807 < g1.size + g2.size + g3.size + cv.size) := by omega
    rw [z1] at y1
    rw [z1, z2] at y2 y3
    have zk2 : g1.size ≤ 300 := by omega
    clear zk
    go_enter Try.func68, Try.ntmps68
    have x0 := row_cell hw0 0 _ rfl
    have x1 := row_cell hw0 1 _ rfl
    have x2 := row_cell hw0 2 _ rfl
    clear hw0
    go_wp2_with (first
      | (go_at_call 109; refine (cC _).out.mono ?_; rintro r v1 ⟨rfl, rfl⟩)
      | (go_at_call 74; refine (cK _).out.mono ?_; rintro r v2 ⟨rfl, hg2⟩)
      | (go_at_call 108; refine (cO _).out.mono ?_; rintro r v3 ⟨rfl, hg3⟩)
      | (go_at_call 89; refine (cT _).out.mono ?_; rintro r v4 ⟨rfl, hg4⟩))
    go_ret
    exact ⟨ret_str HB.out.symm, ((HW.out.trans hg2).trans hg3).trans hg4⟩
  · have HB : Hid (ceBytes (k, v, c, l) = keyBytes k ++ B (Oct.be 1 1) ++ B (Oct.be c 4) ++ B (Oct.be l 4)) := by unfold Hid ceBytes; rw [if_pos h0]
    have cO := fun w1 => Lib.hid (oct_one 1 (by omega) w1)
    have cF := fun w1 => Lib.hid (oct_four c hc w1)
    have cG := fun w1 => Lib.hid (oct_four l hl w1)
    have z1 := B_be_size 1 1
    have z2 := B_be_size c 4
    have z3 := B_be_size l 4
    have e1 : ((1 : Nat) : Int) = 1 := rfl
    simp only [e1] at cO
    have hne : ((c : Int) != 0) = true := by simp; omega
    generalize keyBytes k = g1 at *
    generalize B (Oct.be 1 1) = g2 at *
    generalize B (Oct.be c 4) = g3 at *
    generalize B (Oct.be l 4) = g4 at *
    generalize ceBytes (k, v, c, l) = q at *
    have y1 : ¬ (9223372036854775807 < g1.size + g2.size) := by omega
    have y2 : ¬ (9223372036854775807 < g1.size + g2.size + g3.size) := by omega
    have y3 : ¬ (9223372036854775807 < g1.size + g2.size + g3.size + g4.size) := by omega
    rw [z1] at y1
    rw [z1, z2] at y2
    rw [z1, z2, z3] at y3
    have zk2 : g1.size ≤ 300 := by omega
    clear zk
    go_enter Try.func68, Try.ntmps68
    have x0 := row_cell hw0 0 _ rfl
    have x2 := row_cell hw0 2 _ rfl
    have x3 := row_cell hw0 3 _ rfl
    clear hw0
    go_wp2
    generalize w.alloc (.cells #[.string k, .string v, .int .u32 (c : Nat), .int .u32 (l : Nat)] 59) = W at *
    generalize w.heap.size = g at *
    go_region_held3 (fun w' => w'.cell? ⟨g, 0, none⟩ = some (.string k) ∧ w'.cell? ⟨g, 2, none⟩ = some (.int .u32 (c : Nat)) ∧ w'.cell? ⟨g, 3, none⟩ = some (.int .u32 (l : Nat))) (first | exact ⟨x0, x2, x3⟩ | exact HQ.out | assumption)
      (first
        | (go_at_call 74; refine (cK _).out.mono ?_; clear cK; rintro r v1 ⟨rfl, hg⟩; have HV1 : Hid (Gr W v1) := (Gr.refl W).drew.trans hg; have HQ := Lib.hid (And.intro (HV1.out.cells x0) (And.intro (HV1.out.cells x2) (HV1.out.cells x3))); clear hg)
        | (go_at_call 108; refine (cO _).out.mono ?_; clear cO; rintro r v2 ⟨rfl, hg⟩; have HV2 : Hid (Gr W v2) := HV1.out.trans hg; have HQ := Lib.hid (And.intro (HV2.out.cells x0) (And.intro (HV2.out.cells x2) (HV2.out.cells x3))); clear hg)
        | (go_at_call 75; (with_reducible show Calls _ _ #[.int .u32 (c : Nat)] _ _); refine (cF _).out.mono ?_; clear cF; rintro r v3 ⟨rfl, hg⟩; have HV3 : Hid (Gr W v3) := HV2.out.trans hg; have HQ := Lib.hid (And.intro (HV3.out.cells x0) (And.intro (HV3.out.cells x2) (HV3.out.cells x3))); clear hg)
        | (go_at_call 75; (with_reducible show Calls _ _ #[.int .u32 (l : Nat)] _ _); refine (cG _).out.mono ?_; clear cG; rintro r v4 ⟨rfl, hg⟩; have HV4 : Hid (Gr W v4) := HV3.out.trans hg; have HQ := Lib.hid (And.intro (HV4.out.cells x0) (And.intro (HV4.out.cells x2) (HV4.out.cells x3))); clear hg))
    go_wp2
    go_ret
    exact ⟨ret_str HB.out.symm, HW.out.trans HV4.out⟩
theorem sl_putKid (k : ByteArray) (c : Nat) (hk : k.size ≤ 60000) (hc : c < 4294967296) (w : World) :
    Calls Try.prog 73 #[.agg #[.string k, .int .u32 (c : Nat)]] w fun r w' => r = .returned (.string (kiBytes k c)) ∧ Gr w w' := by
  have cK := fun w1 => Lib.hid (sl_putKey k (by omega) w1)
  have zk := keyBytes_size k
  have hw0 := heap_alloc_last w (.cells #[.string k, .int .u32 (c : Nat)] 61)
  have HW : Hid (Gr w (w.alloc (.cells #[.string k, .int .u32 (c : Nat)] 61))) := (Gr.refl w).alloc _
  have HB : Hid (kiBytes k c = keyBytes k ++ B (Oct.be c 4)) := rfl
  have cF := fun w1 => Lib.hid (oct_four c hc w1)
  have z2 := B_be_size c 4
  generalize keyBytes k = g1 at *
  generalize B (Oct.be c 4) = g3 at *
  generalize kiBytes k c = q at *
  have y1 : ¬ (9223372036854775807 < g1.size + g3.size) := by omega
  rw [z2] at y1
  have zk2 : g1.size ≤ 300 := by omega
  clear zk
  go_enter Try.func73, Try.ntmps73
  have x0 := row_cell hw0 0 _ rfl
  have x1 := row_cell hw0 1 _ rfl
  clear hw0
  go_wp2
  generalize w.alloc (.cells #[.string k, .int .u32 (c : Nat)] 61) = W at *
  generalize w.heap.size = g at *
  go_region_held3 (fun w' => w'.cell? ⟨g, 0, none⟩ = some (.string k) ∧ w'.cell? ⟨g, 1, none⟩ = some (.int .u32 (c : Nat))) (first | exact ⟨x0, x1⟩ | exact HQ.out | assumption)
    (first
      | (go_at_call 74; refine (cK _).out.mono ?_; clear cK; rintro r v1 ⟨rfl, hg⟩; have HV1 : Hid (Gr W v1) := (Gr.refl W).drew.trans hg; have HQ := Lib.hid (And.intro (HV1.out.cells x0) (HV1.out.cells x1)); clear hg)
      | (go_at_call 75; refine (cF _).out.mono ?_; clear cF; rintro r v3 ⟨rfl, hg⟩; have HV3 : Hid (Gr W v3) := HV1.out.trans hg; have HQ := Lib.hid (And.intro (HV3.out.cells x0) (HV3.out.cells x1)); clear hg))
  go_wp2
  go_ret
  exact ⟨ret_str HB.out.symm, HW.out.trans HV3.out⟩
theorem sl_keyLeaf (k v : ByteArray) (c l : Nat) (w : World) :
    Calls Try.prog 70 #[.agg #[.string k, .string v, .int .u32 (c : Nat), .int .u32 (l : Nat)]] w fun r w' => r = .returned (.string k) ∧ Gr w w' := by
  have HW : Hid (Gr w (w.alloc (.cells #[.string k, .string v, .int .u32 (c : Nat), .int .u32 (l : Nat)] 59))) := (Gr.refl w).alloc _
  go_enter Try.func70, Try.ntmps70
  go_wp2
  go_ret
  exact ⟨rfl, HW.out⟩
theorem sl_keyKid (k : ByteArray) (c : Nat) (w : World) :
    Calls Try.prog 79 #[.agg #[.string k, .int .u32 (c : Nat)]] w fun r w' => r = .returned (.string k) ∧ Gr w w' := by
  have HW : Hid (Gr w (w.alloc (.cells #[.string k, .int .u32 (c : Nat)] 61))) := (Gr.refl w).alloc _
  go_enter Try.func79, Try.ntmps79
  go_wp2
  go_ret
  exact ⟨rfl, HW.out⟩
def ceFits (v : ByteArray) (c : Nat) : Bool := if c ≠ 0 then decide (v.size = 0) else decide (v.size ≤ 400)
theorem sl_fits (k v : ByteArray) (c l : Nat) (hv : v.size ≤ 60000) (w : World) :
    Calls Try.prog 71 #[.agg #[.string k, .string v, .int .u32 (c : Nat), .int .u32 (l : Nat)]] w fun r w' => r = .returned (.bool (ceFits v c)) ∧ Gr w w' := by
  have HW : Hid (Gr w (w.alloc (.cells #[.string k, .string v, .int .u32 (c : Nat), .int .u32 (l : Nat)] 59))) := (Gr.refl w).alloc _
  by_cases h0 : c = 0
  · subst h0
    have e1 : ((0 : Nat) : Int) = 0 := rfl
    simp only [e1]
    by_cases h1 : v.size ≤ 400
    · have hF : Hid (ceFits v 0 = true) := by unfold Hid ceFits; simp [h1]
      have h2 : (v.size : Int) ≤ 400 := by omega
      go_enter Try.func71, Try.ntmps71
      go_wp2
      go_ret
      exact ⟨ret_bool hF.out.symm, HW.out⟩
    · have hF : Hid (ceFits v 0 = false) := by unfold Hid ceFits; simp; omega
      have h2 : ¬ (v.size : Int) ≤ 400 := by omega
      go_enter Try.func71, Try.ntmps71
      go_wp2
      go_ret
      exact ⟨ret_bool hF.out.symm, HW.out⟩
  · have hne : ((c : Int) != 0) = true := by simp; omega
    by_cases h1 : v = ByteArray.empty
    · subst h1
      have hF : Hid (ceFits ByteArray.empty c = true) := by unfold Hid ceFits; simp [h0]
      go_enter Try.func71, Try.ntmps71
      go_wp2
      go_ret
      exact ⟨ret_bool hF.out.symm, HW.out⟩
    · have hF : Hid (ceFits v c = false) := by
        unfold Hid ceFits
        rw [if_pos h0]
        refine decide_eq_false ?_
        intro hz
        exact h1 (by apply ByteArray.ext; apply Array.eq_empty_of_size_eq_zero; exact hz)
      have hb : v.toList.isEmpty = false := by
        rw [ByteArray.toList_eq]
        cases hl : v.data.toList with
        | nil => exact absurd (by apply ByteArray.ext; apply Array.ext'; exact hl) h1
        | cons a b => rfl
      go_enter Try.func71, Try.ntmps71
      go_wp2
      go_ret
      exact ⟨ret_bool hF.out.symm, HW.out⟩
end Go.Proofs.Ytmpmfgkabjedpaa
