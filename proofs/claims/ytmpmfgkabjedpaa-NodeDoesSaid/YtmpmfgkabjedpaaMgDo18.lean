/- Layer 10: a node's size; whether it fits, whether it is thin (printed by ndsize_gen.py). -/
import Derived.Test.YtmpmfgkabjedpaaMgDo14
namespace Go.Proofs.Ytmpmfgkabjedpaa
open Go.RowKit
set_option linter.unusedVariables false
set_option linter.unusedSimpArgs false
set_option maxRecDepth 100000
set_option maxHeartbeats 2000000
theorem lf_nsize (v : Value) (xs : List Ce) (hl : xs.length ≤ 4000) (hx : ∀ x ∈ xs, ceOk x) (w : World) (h : LfAt w v xs) :
    Calls Try.prog 21 #[v] w fun r w' => r = .returned (.int .i64 ((lfSum xs : Nat) : Int)) ∧ Gr w w' := by
  obtain ⟨A, cap, rfl, hs, h1, h2⟩ := h
  have cS := fun w1 (hg : Gr w w1) => Lib.hid (lf_sum A cap xs h1 h2 hl hx w1 (hs.gr hg))
  clear hs hx
  have HW : Hid (Gr w (w.alloc (.cells #[.bool true, .slice A xs.length cap, .slice none 0 0] 27))) := (Gr.refl w).alloc _
  have hw0 := heap_alloc_last w (.cells #[.bool true, .slice A xs.length cap, .slice none 0 0] 27)
  go_enter Try.func21, Try.ntmps21
  go_wp2
  generalize w.alloc (.cells #[.bool true, .slice A xs.length cap, .slice none 0 0] 27) = U at *
  generalize w.heap.size = g at *
  have n1 := row_cell hw0 1 _ rfl
  have HR := Lib.hid hw0
  clear hw0
  have HQ : Hid (U.cell? ⟨g, 1, none⟩ = some (.slice A xs.length cap)) := n1
  have HWd := Lib.hid HW.out.drew
  go_region_held3 (fun w' => w'.cell? ⟨g, 1, none⟩ = some (.slice A xs.length cap)) (first | exact HQ.out | assumption)
    (first
      | (go_at_call 37; refine (sl_leaves _).mono ?_; rintro r v1 ⟨rfl, hg⟩; have HG1 := Lib.hid (HWd.out.trans hg); have hr1 := (((Gr.refl U).drew.trans hg).block (lt_of_row HR.out)).trans HR.out; have HR1 := Lib.hid hr1; have HQ : Hid (v1.cell? ⟨g, 1, none⟩ = some (.slice A xs.length cap)) := row_cell hr1 1 _ rfl; clear hg hr1)
      | (go_at_call 58; refine (cS _ HG1.out).out.mono ?_; clear cS; rintro r v2 ⟨rfl, hg⟩; have HG2 := Lib.hid (HG1.out.trans hg); have hr2 := (hg.block (lt_of_row HR1.out)).trans HR1.out; have HQ : Hid (v2.cell? ⟨g, 1, none⟩ = some (.slice A xs.length cap)) := row_cell hr2 1 _ rfl; clear hg hr2))
  go_wp2
  go_ret
  exact ⟨rfl, HG2.out⟩
theorem lf_fits (v : Value) (xs : List Ce) (hl : xs.length ≤ 4000) (hx : ∀ x ∈ xs, ceOk x) (w : World) (h : LfAt w v xs) :
    Calls Try.prog 23 #[v] w fun r w' => r = .returned (.bool (decide (((lfSum xs : Nat) : Int) ≤ 4072))) ∧ Gr w w' := by
  have cS := fun w1 (hg : Gr w w1) => Lib.hid (lf_nsize v xs hl hx w1 (h.gr hg))
  obtain ⟨A, cap, rfl, hs, h1, h2⟩ := h
  clear hs hx
  generalize lfSum xs = sm at *
  have HW : Hid (Gr w (w.alloc (.cells #[.bool true, .slice A xs.length cap, .slice none 0 0] 27))) := (Gr.refl w).alloc _
  go_enter Try.func23, Try.ntmps23
  go_wp2_with (go_at_call 21; refine (cS _ HW.out).out.mono ?_; clear cS; rintro r v1 ⟨rfl, hg⟩; have HG1 := Lib.hid (HW.out.trans hg); clear hg)
  go_ret
  exact ⟨rfl, HG1.out⟩
theorem lf_thin (v : Value) (xs : List Ce) (hl : xs.length ≤ 4000) (hx : ∀ x ∈ xs, ceOk x) (w : World) (h : LfAt w v xs) :
    Calls Try.prog 24 #[v] w fun r w' => r = .returned (.bool (decide (((lfSum xs : Nat) : Int) < 1018))) ∧ Gr w w' := by
  have cS := fun w1 (hg : Gr w w1) => Lib.hid (lf_nsize v xs hl hx w1 (h.gr hg))
  obtain ⟨A, cap, rfl, hs, h1, h2⟩ := h
  clear hs hx
  generalize lfSum xs = sm at *
  have HW : Hid (Gr w (w.alloc (.cells #[.bool true, .slice A xs.length cap, .slice none 0 0] 27))) := (Gr.refl w).alloc _
  go_enter Try.func24, Try.ntmps24
  go_wp2_with (go_at_call 21; refine (cS _ HW.out).out.mono ?_; clear cS; rintro r v1 ⟨rfl, hg⟩; have HG1 := Lib.hid (HW.out.trans hg); clear hg)
  go_ret
  exact ⟨rfl, HG1.out⟩
theorem ki_nsize (v : Value) (xs : List Ki) (hl : xs.length ≤ 4000) (hx : ∀ x ∈ xs, kiOk x) (w : World) (h : KiAt w v xs) :
    Calls Try.prog 21 #[v] w fun r w' => r = .returned (.int .i64 ((kiSum xs : Nat) : Int)) ∧ Gr w w' := by
  obtain ⟨A, cap, rfl, hs, h1, h2⟩ := h
  have cS := fun w1 (hg : Gr w w1) => Lib.hid (ki_sum A cap xs h1 h2 hl hx w1 (hs.gr hg))
  clear hs hx
  have HW : Hid (Gr w (w.alloc (.cells #[.bool false, .slice none 0 0, .slice A xs.length cap] 27))) := (Gr.refl w).alloc _
  have hw0 := heap_alloc_last w (.cells #[.bool false, .slice none 0 0, .slice A xs.length cap] 27)
  go_enter Try.func21, Try.ntmps21
  go_wp2
  generalize w.alloc (.cells #[.bool false, .slice none 0 0, .slice A xs.length cap] 27) = U at *
  generalize w.heap.size = g at *
  have n1 := row_cell hw0 2 _ rfl
  have HR := Lib.hid hw0
  clear hw0
  have HQ : Hid (U.cell? ⟨g, 2, none⟩ = some (.slice A xs.length cap)) := n1
  have HWd := Lib.hid HW.out.drew
  go_region_held3 (fun w' => w'.cell? ⟨g, 2, none⟩ = some (.slice A xs.length cap)) (first | exact HQ.out | assumption)
    (first
      | (go_at_call 40; refine (sl_kids _).mono ?_; rintro r v1 ⟨rfl, hg⟩; have HG1 := Lib.hid (HWd.out.trans hg); have hr1 := (((Gr.refl U).drew.trans hg).block (lt_of_row HR.out)).trans HR.out; have HR1 := Lib.hid hr1; have HQ : Hid (v1.cell? ⟨g, 2, none⟩ = some (.slice A xs.length cap)) := row_cell hr1 2 _ rfl; clear hg hr1)
      | (go_at_call 59; refine (cS _ HG1.out).out.mono ?_; clear cS; rintro r v2 ⟨rfl, hg⟩; have HG2 := Lib.hid (HG1.out.trans hg); have hr2 := (hg.block (lt_of_row HR1.out)).trans HR1.out; have HQ : Hid (v2.cell? ⟨g, 2, none⟩ = some (.slice A xs.length cap)) := row_cell hr2 2 _ rfl; clear hg hr2))
  go_wp2
  go_ret
  exact ⟨rfl, HG2.out⟩
theorem ki_fits (v : Value) (xs : List Ki) (hl : xs.length ≤ 4000) (hx : ∀ x ∈ xs, kiOk x) (w : World) (h : KiAt w v xs) :
    Calls Try.prog 23 #[v] w fun r w' => r = .returned (.bool (decide (((kiSum xs : Nat) : Int) ≤ 4072))) ∧ Gr w w' := by
  have cS := fun w1 (hg : Gr w w1) => Lib.hid (ki_nsize v xs hl hx w1 (h.gr hg))
  obtain ⟨A, cap, rfl, hs, h1, h2⟩ := h
  clear hs hx
  generalize kiSum xs = sm at *
  have HW : Hid (Gr w (w.alloc (.cells #[.bool false, .slice none 0 0, .slice A xs.length cap] 27))) := (Gr.refl w).alloc _
  go_enter Try.func23, Try.ntmps23
  go_wp2_with (go_at_call 21; refine (cS _ HW.out).out.mono ?_; clear cS; rintro r v1 ⟨rfl, hg⟩; have HG1 := Lib.hid (HW.out.trans hg); clear hg)
  go_ret
  exact ⟨rfl, HG1.out⟩
theorem ki_thin (v : Value) (xs : List Ki) (hl : xs.length ≤ 4000) (hx : ∀ x ∈ xs, kiOk x) (w : World) (h : KiAt w v xs) :
    Calls Try.prog 24 #[v] w fun r w' => r = .returned (.bool (decide (((kiSum xs : Nat) : Int) < 1018))) ∧ Gr w w' := by
  have cS := fun w1 (hg : Gr w w1) => Lib.hid (ki_nsize v xs hl hx w1 (h.gr hg))
  obtain ⟨A, cap, rfl, hs, h1, h2⟩ := h
  clear hs hx
  generalize kiSum xs = sm at *
  have HW : Hid (Gr w (w.alloc (.cells #[.bool false, .slice none 0 0, .slice A xs.length cap] 27))) := (Gr.refl w).alloc _
  go_enter Try.func24, Try.ntmps24
  go_wp2_with (go_at_call 21; refine (cS _ HW.out).out.mono ?_; clear cS; rintro r v1 ⟨rfl, hg⟩; have HG1 := Lib.hid (HW.out.trans hg); clear hg)
  go_ret
  exact ⟨rfl, HG1.out⟩
theorem rf_nsize (leaf : Bool) (v : Value) (zs : List Ce) (hl : zs.length ≤ 4000) (hx : ∀ x ∈ zs, ceOk x) (w : World) (h : RfAt w leaf v zs) :
    Calls Try.prog 22 #[v] w fun r w' => r = .returned (.int .i64 ((rcSum leaf zs : Nat) : Int)) ∧ Gr w w' := by
  obtain ⟨A, cap, rfl, hs, h1, h2⟩ := h
  have cS := fun w1 (hg : Gr w w1) => Lib.hid (rf_sum leaf A cap zs h1 h2 hl hx w1 (hs.gr hg))
  clear hs hx
  have HW : Hid (Gr w (w.alloc (.cells #[.bool leaf, .slice A zs.length cap] 32))) := (Gr.refl w).alloc _
  have hw0 := heap_alloc_last w (.cells #[.bool leaf, .slice A zs.length cap] 32)
  have n0 := row_cell hw0 0 _ rfl
  have n1 := row_cell hw0 1 _ rfl
  go_enter Try.func22, Try.ntmps22
  go_wp2_with (go_at_call 44; refine (cS _ (by first | exact HW.out | exact HW.out.drew)).out.mono ?_; clear cS; rintro r v1 ⟨rfl, hg⟩; have HG1 := Lib.hid (by first | exact HW.out.trans hg | exact HW.out.drew.trans hg); clear hg)
  go_ret
  exact ⟨rfl, HG1.out⟩
end Go.Proofs.Ytmpmfgkabjedpaa
namespace Go.Proofs.Ytmpmfgkabjedpaa
open Go.RowKit
set_option linter.unusedVariables false
set_option linter.unusedSimpArgs false
set_option maxRecDepth 100000
set_option maxHeartbeats 2000000
theorem nd_rclo (k : ByteArray) (p : Nat) (w : World) :
    Calls Try.prog 85 #[.agg #[.string k, .int .u32 (p : Nat)]] w fun r w' => r = .returned (.bool (decide ((p : Int) < 2))) ∧ Gr w w' := by
  have HW : Hid (Gr w (w.alloc (.cells #[.string k, .int .u32 (p : Nat)] 61))) := (Gr.refl w).alloc _
  go_enter Try.func85, Try.ntmps85
  go_wp2
  go_ret
  exact ⟨rfl, HW.out⟩
def kiLow (ys : List Ki) : Prop := ∃ y ∈ ys, y.2 < 2
theorem nd_index (A : Option Addr) (cap : Nat) (ys : List Ki) (hcap : ys.length ≤ cap) (hcm : cap ≤ maxLen) (w : World) (hs : SliceAt w A 2 kiCell ys) :
    Calls Try.prog 115 #[.slice A ys.length cap, .func (.func 85) #[] #[]] w fun r w' => ∃ n : Int, r = .returned (.int .i64 n) ∧ (0 ≤ n ↔ kiLow ys) ∧ Gr w w' := by
  unfold maxLen at hcm
  have HX := Lib.hid hs
  clear hs
  go_enter Try.func115, Try.ntmps115
  go_wp2
  go_loopw [8] (fun i wr => ∃ k : Nat, k ≤ ys.length ∧ i = .int .i64 (k : Nat) ∧ Hid (Gr w wr ∧ ∀ y ∈ ys.take k, 2 ≤ y.2)) (fun i _ => ys.length - (intOf i).toNat)
  case atStart => exact ⟨0, by omega, rfl, Gr.refl _, fun y hy => by simp at hy⟩
  case round =>
    obtain ⟨k, hk, rfl, HR⟩ := hrel
    by_cases hlt : k < ys.length
    · rcases HX.out with h0 | ⟨a, off, rfl, hcell⟩
      · subst h0; simp at hlt
      have hget := List.getElem?_eq_getElem hlt
      have htk : ∀ y, ys[k] = y → 2 ≤ y.2 → ∀ z ∈ ys.take (k + 1), 2 ≤ z.2 := by
        intro y hy h2 z hz
        rw [List.take_succ_eq_append_getElem hlt] at hz
        rcases List.mem_append.1 hz with hz | hz
        · exact HR.out.2 z hz
        · simp only [List.mem_singleton] at hz; subst hz; rw [hy]; exact h2
      have hlow : ∀ y, ys[k] = y → y.2 < 2 → kiLow ys := fun y hy h2 => ⟨y, by rw [← hy]; exact List.getElem_mem hlt, h2⟩
      generalize ys[k] = y at *
      have HTK := Lib.hid (And.intro (htk y rfl) (hlow y rfl))
      clear htk hlow
      obtain ⟨e0, e1⟩ := y
      have a0 := HR.out.1.cells (hcell k _ hget 0 _ rfl)
      have a1 := HR.out.1.cells (hcell k _ hget 1 _ rfl)
      simp only [Nat.add_zero] at a0
      clear hcell hget
      have cC := fun w1 => Lib.hid (nd_rclo e0 e1 w1)
      by_cases h2 : e1 < 2
      · have hd : decide ((e1 : Int) < 2) = true := by simp; omega
        have hL := HTK.out.2 h2
        have HL := Lib.hid hL
        rw [hd] at cC
        clear hd hL h2
        go_wp2_with (go_at_call 85; refine (cC _).out.mono ?_; clear cC; rintro r v1 ⟨rfl, hg⟩; have HG := Lib.hid (HR.out.1.trans hg); clear hg)
        go_ret
        exact ⟨_, rfl, ⟨fun _ => HL.out, fun _ => by omega⟩, HG.out⟩
      · have hd : decide ((e1 : Int) < 2) = false := by simp; omega
        have hL := HTK.out.1 (by show 2 ≤ e1; omega)
        have HL := Lib.hid hL
        rw [hd] at cC
        clear hd hL h2
        go_wp2_with (go_at_call 85; refine (cC _).out.mono ?_; clear cC; rintro r v1 ⟨rfl, hg⟩; have HG := Lib.hid (HR.out.1.trans hg); clear hg)
        go_roundw
        case rel => exact ⟨k + 1, by omega, by go_num, HG.out, HL.out⟩
        case measure => (simp [intOf]; try omega)
    · obtain rfl : k = ys.length := by omega
      go_wp2
      go_ret
      refine ⟨_, rfl, ⟨fun h => by omega, ?_⟩, HR.out.1⟩
      rintro ⟨y, hy, h2⟩
      have := HR.out.2 y (by rw [List.take_length]; exact hy)
      omega
open Classical in
noncomputable def kiLowB (ys : List Ki) : Bool := decide (kiLow ys)
theorem nd_contains (A : Option Addr) (cap : Nat) (ys : List Ki) (hcap : ys.length ≤ cap) (hcm : cap ≤ maxLen) (w : World) (hs : SliceAt w A 2 kiCell ys) :
    Calls Try.prog 84 #[.slice A ys.length cap, .func (.func 85) #[] #[]] w fun r w' => r = .returned (.bool (kiLowB ys)) ∧ Gr w w' := by
  have c := Lib.hid (nd_index A cap ys hcap hcm w hs)
  clear hs
  go_enter Try.func84, Try.ntmps84
  go_wp2_with (go_at_call 115; refine c.out.mono ?_; clear c; rintro r v1 ⟨n, rfl, hn, hg⟩; have HN := Lib.hid hn; have HG := Lib.hid hg; clear hn hg)
  go_ret
  refine ⟨ret_bool ?_, HG.out⟩
  unfold kiLowB
  simp only [← HN.out]
end Go.Proofs.Ytmpmfgkabjedpaa
