/- Layer 6: may a leaf's cells be so: walked (printed by sl4_gen.py). -/
import Derived.Test.YtmpmfgkabjedpaaMgDo04
namespace Go.Proofs.Ytmpmfgkabjedpaa
open Go.RowKit
set_option linter.unusedVariables false
set_option linter.unusedSimpArgs false
set_option maxRecDepth 100000
set_option maxHeartbeats 4000000
theorem lf_eq4 (w : World) : (binOp .neq 77 (.func (.func 71) #[] #[]) .nilFunc).run Try.prog w = .ok (.bool true) w := by kernel_rfl
noncomputable def lfErr (xs : List Ce) : Int := rErr ceBad (fun x => x.1) xs
theorem lf_right (A : Option Addr) (cap : Nat) (xs : List Ce) (hcap : xs.length ≤ cap) (hcm : cap ≤ maxLen) (hl : xs.length ≤ 4000) (hx : ∀ x ∈ xs, ceOk x) (w : World) (hs : SliceAt w A 4 ceCell xs) :
    Calls Try.prog 87 #[.agg #[.func (.func 68) #[] #[], .func (.func 69) #[] #[], .func (.func 70) #[] #[], .func (.func 71) #[] #[]], .slice A xs.length cap] w fun r w' => r = .returned (.int .i64 (lfErr xs)) ∧ Gr w w' := by
  unfold maxLen at hcm
  have q4 := lf_eq4
  have HX := Lib.hid (And.intro hs hx)
  clear hs hx
  have hw0 := Lib.hid (heap_alloc_last w (.cells #[.func (.func 68) #[] #[], .func (.func 69) #[] #[], .func (.func 70) #[] #[], .func (.func 71) #[] #[]] 79))
  have HW : Hid (Gr w (w.alloc (.cells #[.func (.func 68) #[] #[], .func (.func 69) #[] #[], .func (.func 70) #[] #[], .func (.func 71) #[] #[]] 79))) := (Gr.refl w).alloc _
  have HE : Hid (lfErr xs = rErr ceBad (fun x => x.1) xs) := rfl
  generalize lfErr xs = er at *
  go_enter Try.func87, Try.ntmps87
  go_wp2
  have HV : Hid (Gr w (w.alloc (.cells #[.func (.func 68) #[] #[], .func (.func 69) #[] #[], .func (.func 70) #[] #[], .func (.func 71) #[] #[]] 79)) ∧ (w.alloc (.cells #[.func (.func 68) #[] #[], .func (.func 69) #[] #[], .func (.func 70) #[] #[], .func (.func 71) #[] #[]] 79)).heap[w.heap.size]? = some (.cells #[.func (.func 68) #[] #[], .func (.func 69) #[] #[], .func (.func 70) #[] #[], .func (.func 71) #[] #[]] 79 (0, 0))) := ⟨HW.out, hw0.out⟩
  clear HW hw0
  generalize w.alloc (.cells #[.func (.func 68) #[] #[], .func (.func 69) #[] #[], .func (.func 70) #[] #[], .func (.func 71) #[] #[]] 79) = W at *
  generalize w.heap.size = g at *
  go_loopw [10] (fun i wr => ∃ k : Nat, k ≤ xs.length ∧ i = .int .i64 (k : Nat) ∧ Hid (Gr w wr ∧ wr.heap[g]? = some (.cells #[.func (.func 68) #[] #[], .func (.func 69) #[] #[], .func (.func 70) #[] #[], .func (.func 71) #[] #[]] 79 (0, 0)) ∧ ∀ x ∈ xs.take k, ceBad x = false)) (fun i _ => xs.length - (intOf i).toNat)
  case atStart => exact ⟨0, by omega, rfl, HV.out.1, HV.out.2, fun x hx => by simp at hx⟩
  case round =>
    obtain ⟨k, hk, rfl, HR⟩ := hrel
    by_cases hlt : k < xs.length
    · rcases HX.out.1 with h0 | ⟨a, off, rfl, hcell⟩
      · subst h0; simp at hlt
      · have hget := List.getElem?_eq_getElem hlt
        have hxo := HX.out.2 xs[k] (List.getElem_mem hlt)
        have hmem := List.getElem_mem hlt
        have htk : ∀ b, ceBad xs[k] = b → (∀ x ∈ xs.take k, ceBad x = false) → b = false → ∀ x ∈ xs.take (k + 1), ceBad x = false := by
          intro b hb h1 h2 x hx
          rw [List.take_succ_eq_append_getElem hlt] at hx
          rcases List.mem_append.1 hx with hx | hx
          · exact h1 x hx
          · simp only [List.mem_singleton] at hx; subst hx; rw [hb, h2]
        generalize xs[k] = x at *
        obtain ⟨e0, e1, e2, e3⟩ := x
        have a0 := HR.out.1.cells (hcell k _ hget 0 _ rfl)
        have a1 := HR.out.1.cells (hcell k _ hget 1 _ rfl)
        have a2 := HR.out.1.cells (hcell k _ hget 2 _ rfl)
        have a3 := HR.out.1.cells (hcell k _ hget 3 _ rfl)
        simp only [Nat.add_zero] at a0
        have HC := Lib.hid (And.intro hcell (And.intro hget (And.intro hmem htk)))
        clear hcell hget hmem htk
        have cK := fun w1 => Lib.hid (sl_keyLeaf e0 e1 e2 e3 w1)
        have cF := fun w1 => Lib.hid (sl_fits e0 e1 e2 e3 hxo.2.1 w1)
        have hgl := lt_of_row HR.out.2.1
        have HA : Hid ((wr.alloc (.cells #[.string e0, .string e1, .int .u32 (e2 : Nat), .int .u32 (e3 : Nat)] 59)).heap[g]? = some (.cells #[.func (.func 68) #[] #[], .func (.func 69) #[] #[], .func (.func 70) #[] #[], .func (.func 71) #[] #[]] 79 (0, 0))) := (((Gr.refl wr).alloc _).block hgl).trans HR.out.2.1
        have HA2 := Lib.hid (heap_alloc_last wr (.cells #[.string e0, .string e1, .int .u32 (e2 : Nat), .int .u32 (e3 : Nat)] 59))
        have s0 := row_cell HA.out 0 _ rfl
        have s1 := row_cell HA.out 1 _ rfl
        have s2 := row_cell HA.out 2 _ rfl
        have s3 := row_cell HA.out 3 _ rfl
        by_cases hb : 255 < e0.size
        · have hb1 : (255 : Int) < (e0.size : Int) := by omega
          have he : er = 5 := HE.out.trans (rErr_bad HC.out.2.2.1 (by simp [ceBad, hb]))
          subst he
          go_wp2_with ((go_at_call 70; refine (cK _).out.mono ?_; clear cK; rintro r v1 ⟨rfl, hg⟩; have HB := Lib.hid (And.intro ((hg.block (lt_of_row HA.out)).trans HA.out) ((hg.block (lt_of_row HA2.out)).trans HA2.out)); have HG1 : Hid (Gr w v1) := (HR.out.1.alloc _).trans hg; clear hg; have u3 := row_cell HB.out.1 3 _ rfl; have y0 := row_cell HB.out.2 0 _ rfl; have y1 := row_cell HB.out.2 1 _ rfl; have y2 := row_cell HB.out.2 2 _ rfl; have y3 := row_cell HB.out.2 3 _ rfl))
          go_ret
          exact ⟨rfl, HG1.out⟩
        · have hb1 : ¬ (255 : Int) < (e0.size : Int) := by omega
          by_cases hf : ceFits e1 e2 = true
          · rw [hf] at cF
            go_wp2_with (first
              | (go_at_call 70; refine (cK _).out.mono ?_; clear cK; rintro r v1 ⟨rfl, hg⟩; have HB := Lib.hid (And.intro ((hg.block (lt_of_row HA.out)).trans HA.out) ((hg.block (lt_of_row HA2.out)).trans HA2.out)); have HG1 : Hid (Gr w v1) := (HR.out.1.alloc _).trans hg; clear hg; have u3 := row_cell HB.out.1 3 _ rfl; have y0 := row_cell HB.out.2 0 _ rfl; have y1 := row_cell HB.out.2 1 _ rfl; have y2 := row_cell HB.out.2 2 _ rfl; have y3 := row_cell HB.out.2 3 _ rfl)
              | (go_at_call 71; refine (cF _).out.mono ?_; clear cF; rintro r v2 ⟨rfl, hg⟩; have HG2 : Hid (Gr w v2) := HG1.out.trans hg; have HB2 := Lib.hid ((hg.block (lt_of_row HB.out.1)).trans HB.out.1); clear hg))
            have HT : Hid (Gr w v2 ∧ v2.heap[g]? = some (.cells #[.func (.func 68) #[] #[], .func (.func 69) #[] #[], .func (.func 70) #[] #[], .func (.func 71) #[] #[]] 79 (0, 0)) ∧ ∀ x ∈ xs.take (k + 1), ceBad x = false) := ⟨HG2.out, HB2.out, HC.out.2.2.2 _ rfl HR.out.2.2 (by simp [ceBad, hb, hf])⟩
            clear HA HA2 HB HG1
            go_roundw
            case rel => exact ⟨k + 1, by omega, by go_num, HT⟩
            case measure => simp [intOf]; omega
          · have hf2 : ceFits e1 e2 = false := by simpa using hf
            rw [hf2] at cF
            have he : er = 5 := HE.out.trans (rErr_bad HC.out.2.2.1 (by simp [ceBad, hf2]))
            subst he
            go_wp2_with (first
              | (go_at_call 70; refine (cK _).out.mono ?_; clear cK; rintro r v1 ⟨rfl, hg⟩; have HB := Lib.hid (And.intro ((hg.block (lt_of_row HA.out)).trans HA.out) ((hg.block (lt_of_row HA2.out)).trans HA2.out)); have HG1 : Hid (Gr w v1) := (HR.out.1.alloc _).trans hg; clear hg; have u3 := row_cell HB.out.1 3 _ rfl; have y0 := row_cell HB.out.2 0 _ rfl; have y1 := row_cell HB.out.2 1 _ rfl; have y2 := row_cell HB.out.2 2 _ rfl; have y3 := row_cell HB.out.2 3 _ rfl)
              | (go_at_call 71; refine (cF _).out.mono ?_; clear cF; rintro r v2 ⟨rfl, hg⟩; have HG2 : Hid (Gr w v2) := HG1.out.trans hg; have HB2 := Lib.hid ((hg.block (lt_of_row HB.out.1)).trans HB.out.1); clear hg))
            go_ret
            exact ⟨rfl, HG2.out⟩
    · obtain rfl : k = xs.length := by omega
      have HALL : Hid (∀ x ∈ xs, ceBad x = false) := by have h := HR.out.2.2; rw [List.take_length] at h; exact h
      have HV2 : Hid (Gr w wr ∧ wr.heap[g]? = some (.cells #[.func (.func 68) #[] #[], .func (.func 69) #[] #[], .func (.func 70) #[] #[], .func (.func 71) #[] #[]] 79 (0, 0))) := ⟨HR.out.1, HR.out.2.1⟩
      clear HR HV
      generalize wr = W1 at *
      go_wp2
      go_loopw [7] (fun i wr => ∃ k : Nat, k ≤ xs.length ∧ i = .int .i64 ((k + 1 : Nat) : Int) ∧ Hid (Gr w wr ∧ wr.heap[g]? = some (.cells #[.func (.func 68) #[] #[], .func (.func 69) #[] #[], .func (.func 70) #[] #[], .func (.func 71) #[] #[]] 79 (0, 0)) ∧ ∀ i a b, i < k → xs[i]? = some a → xs[i + 1]? = some b → SL a.1 b.1 = true)) (fun i _ => xs.length + 1 - (intOf i).toNat)
      case atStart => exact ⟨0, by omega, rfl, HV2.out.1, HV2.out.2, fun i a b h => by omega⟩
      case round =>
        obtain ⟨k, hk, rfl, HR⟩ := hrel
        by_cases hlt : k + 1 < xs.length
        · rcases HX.out.1 with h0 | ⟨a, off, rfl, hcell⟩
          · subst h0; simp at hlt
          · have hgx := List.getElem?_eq_getElem (show k < xs.length by omega)
            have hgy := List.getElem?_eq_getElem hlt
            generalize xs[k + 1] = y at *
            generalize xs[k] = x at *
            obtain ⟨e0, e1, e2, e3⟩ := x
            obtain ⟨f0, f1, f2, f3⟩ := y
            have a0 := HR.out.1.cells (hcell k _ hgx 0 _ rfl)
            have b0 := HR.out.1.cells (hcell (k + 1) _ hgy 0 _ rfl)
            have a1 := HR.out.1.cells (hcell k _ hgx 1 _ rfl)
            have b1 := HR.out.1.cells (hcell (k + 1) _ hgy 1 _ rfl)
            have a2 := HR.out.1.cells (hcell k _ hgx 2 _ rfl)
            have b2 := HR.out.1.cells (hcell (k + 1) _ hgy 2 _ rfl)
            have a3 := HR.out.1.cells (hcell k _ hgx 3 _ rfl)
            have b3 := HR.out.1.cells (hcell (k + 1) _ hgy 3 _ rfl)
            simp only [Nat.add_zero] at a0 b0
            have HC := Lib.hid (And.intro hcell (And.intro hgx hgy))
            clear hcell hgx hgy
            have cX := fun w1 => Lib.hid (sl_keyLeaf e0 e1 e2 e3 w1)
            have cY := fun w1 => Lib.hid (sl_keyLeaf f0 f1 f2 f3 w1)
            have hk1 : (0 : Int) ≤ (k : Int) + 1 - 1 := by omega
            have hk2 : ((k : Int) + 1 - 1) = (k : Int) := by omega
            have hk3 : wrap64 ((k : Int) + 1 - 1) = (k : Int) := by unfold wrap64; omega
            have hk4 : (k : Int) + 1 < (xs.length : Int) := by omega
            have hk5 : (k : Int) < (xs.length : Int) := by omega
            have hk6 : (0 : Int) ≤ (k : Int) + 1 := by omega
            have hk7 : ((k : Int) + 1).toNat = k + 1 := by omega
            have hk8 : (0 : Int) ≤ (k : Int) := by omega
            have hk9 : IntKind.i64.wrap (k : Int) = (k : Int) := by rw [IntKind.wrap_i64]; omega
            have hk10 : wrap64 (k : Int) = (k : Int) := by unfold wrap64; omega
            have hk11 : IntKind.i64.wrap ((k : Int) + 1 - 1) = (k : Int) := by rw [IntKind.wrap_i64]; omega
            have s0 := row_cell HR.out.2.1 0 _ rfl
            have s1 := row_cell HR.out.2.1 1 _ rfl
            have s2 := row_cell HR.out.2.1 2 _ rfl
            have s3 := row_cell HR.out.2.1 3 _ rfl
            go_wp2
            go_region_held3 (fun w' => w'.cell? ⟨g, 2, none⟩ = some (.func (.func 70) #[] #[]) ∧ w'.cell? ⟨a, off + k * 4, none⟩ = some (.string e0) ∧ w'.cell? ⟨a, off + k * 4 + 1, none⟩ = some (.string e1) ∧ w'.cell? ⟨a, off + k * 4 + 2, none⟩ = some (.int .u32 (e2 : Nat)) ∧ w'.cell? ⟨a, off + k * 4 + 3, none⟩ = some (.int .u32 (e3 : Nat)) ∧ w'.cell? ⟨a, off + (k + 1) * 4, none⟩ = some (.string f0) ∧ w'.cell? ⟨a, off + (k + 1) * 4 + 1, none⟩ = some (.string f1) ∧ w'.cell? ⟨a, off + (k + 1) * 4 + 2, none⟩ = some (.int .u32 (f2 : Nat)) ∧ w'.cell? ⟨a, off + (k + 1) * 4 + 3, none⟩ = some (.int .u32 (f3 : Nat))) (first | exact ⟨s2, a0, a1, a2, a3, b0, b1, b2, b3⟩ | exact HQ.out | assumption)
              (first
                | (go_at_call 70; refine (cX _).out.mono ?_; clear cX; rintro r v1 ⟨rfl, hg⟩; have HV1 : Hid (Gr wr v1) := (Gr.refl wr).drew.trans hg; have HQ := Lib.hid (And.intro (HV1.out.cells s2) (And.intro (HV1.out.cells a0) (And.intro (HV1.out.cells a1) (And.intro (HV1.out.cells a2) (And.intro (HV1.out.cells a3) (And.intro (HV1.out.cells b0) (And.intro (HV1.out.cells b1) (And.intro (HV1.out.cells b2) (HV1.out.cells b3))))))))); clear hg)
                | (go_at_call 70; refine (cY _).out.mono ?_; clear cY; rintro r v2 ⟨rfl, hg⟩; have HV3 : Hid (Gr wr v2) := HV1.out.trans hg; have HQ := Lib.hid (And.intro (HV3.out.cells s2) (And.intro (HV3.out.cells a0) (And.intro (HV3.out.cells a1) (And.intro (HV3.out.cells a2) (And.intro (HV3.out.cells a3) (And.intro (HV3.out.cells b0) (And.intro (HV3.out.cells b1) (And.intro (HV3.out.cells b2) (HV3.out.cells b3))))))))); clear hg))
            all_goals
              clear hk1 hk2 hk3 hk5 hk6 hk7 hk8 hk9 hk10 hk11
              by_cases ho : SL e0 f0 = true
              · have ho2 : Op.bytesLess e0.toList f0.toList = true := ho
                have HT : Hid (Gr w v2 ∧ v2.heap[g]? = some (.cells #[.func (.func 68) #[] #[], .func (.func 69) #[] #[], .func (.func 70) #[] #[], .func (.func 71) #[] #[]] 79 (0, 0)) ∧ ∀ i a b, i < k + 1 → xs[i]? = some a → xs[i + 1]? = some b → SL a.1 b.1 = true) := by
                  refine ⟨HR.out.1.trans HV3.out, (HV3.out.block (lt_of_row HR.out.2.1)).trans HR.out.2.1, ?_⟩
                  intro i a b hi h1 h2
                  by_cases hik : i = k
                  · subst hik
                    rw [HC.out.2.1] at h1; rw [HC.out.2.2] at h2
                    cases h1; cases h2; exact ho
                  · exact HR.out.2.2 i a b (by omega) h1 h2
                go_wp2
                all_goals first
                  | exact ⟨⟨k + 1, by omega, by go_num, HT⟩, by simp [intOf]; omega⟩
                  | (exfalso; simp_all; done)
              · have ho2 : Op.bytesLess e0.toList f0.toList = false := by simpa using ho
                have he : er = 30 := HE.out.trans (rErr_ord HALL.out HC.out.2.1 HC.out.2.2 ho2)
                subst he
                go_wp2
                all_goals first
                  | (go_ret; exact ⟨rfl, HR.out.1.trans HV3.out⟩)
                  | (exfalso; simp_all; done)
        · have hk4 : ¬ (k : Int) + 1 < (xs.length : Int) := by omega
          have he : er = 0 := HE.out.trans (rErr_ok HALL.out (fun i a b h1 h2 => HR.out.2.2 i a b (by
            rcases Nat.lt_or_ge (i + 1) xs.length with h | h
            · omega
            · rw [List.getElem?_eq_none h] at h2; cases h2) h1 h2))
          subst he
          go_wp2
          go_ret
          exact ⟨rfl, HR.out.1⟩
end Go.Proofs.Ytmpmfgkabjedpaa
