/- Layer 6: may a branch's cells be so: walked (printed by sl4_gen.py). -/
import Derived.Test.YtmpmfgkabjedpaaMgDo01
import Derived.Test.YtmpmfgkabjedpaaMgDo04
import Derived.Test.YtmpmfgkabjedpaaMgDo05
import Derived.Lib.Strings
import Derived.Lib.Slices
import Derived.Lib.Walk
import Derived.Lib.Builder
import Derived.Lib.AppendStr
import Derived.Lib.UnsafeStr
import Derived.Laws.Externs
import Derived.Laws.IdiomCopy
import Derived.Shelf.Strings.BuilderX
namespace Go.Proofs.Ytmpmfgkabjedpaa
open Go.RowKit
set_option linter.unusedVariables false
set_option linter.unusedSimpArgs false
set_option maxRecDepth 100000
set_option maxHeartbeats 4000000
theorem ki_eq4 (w : World) : (binOp .neq 85 .nilFunc .nilFunc).run Try.prog w = .ok (.bool false) w := by kernel_rfl
noncomputable def kiErr (xs : List Ki) : Int := rErr keyBad (fun x => x.1) xs
theorem ki_right (A : Option Addr) (cap : Nat) (xs : List Ki) (hcap : xs.length ≤ cap) (hcm : cap ≤ maxLen) (hl : xs.length ≤ 4000) (hx : ∀ x ∈ xs, kiOk x) (w : World) (hs : SliceAt w A 2 kiCell xs) :
    Calls Try.prog 93 #[.agg #[.func (.func 73) #[] #[], .func (.func 76) #[] #[], .func (.func 79) #[] #[], .nilFunc], .slice A xs.length cap] w fun r w' => r = .returned (.int .i64 (kiErr xs)) ∧ Gr w w' := by
  unfold maxLen at hcm
  have q4 := ki_eq4
  have HX := Lib.hid (And.intro hs hx)
  clear hs hx
  have hw0 := Lib.hid (heap_alloc_last w (.cells #[.func (.func 73) #[] #[], .func (.func 76) #[] #[], .func (.func 79) #[] #[], .nilFunc] 87))
  have HW : Hid (Gr w (w.alloc (.cells #[.func (.func 73) #[] #[], .func (.func 76) #[] #[], .func (.func 79) #[] #[], .nilFunc] 87))) := (Gr.refl w).alloc _
  have HE : Hid (kiErr xs = rErr keyBad (fun x => x.1) xs) := rfl
  generalize kiErr xs = er at *
  go_enter Try.func93, Try.ntmps93
  go_wp2
  have HV : Hid (Gr w (w.alloc (.cells #[.func (.func 73) #[] #[], .func (.func 76) #[] #[], .func (.func 79) #[] #[], .nilFunc] 87)) ∧ (w.alloc (.cells #[.func (.func 73) #[] #[], .func (.func 76) #[] #[], .func (.func 79) #[] #[], .nilFunc] 87)).heap[w.heap.size]? = some (.cells #[.func (.func 73) #[] #[], .func (.func 76) #[] #[], .func (.func 79) #[] #[], .nilFunc] 87 (0, 0))) := ⟨HW.out, hw0.out⟩
  clear HW hw0
  generalize w.alloc (.cells #[.func (.func 73) #[] #[], .func (.func 76) #[] #[], .func (.func 79) #[] #[], .nilFunc] 87) = W at *
  generalize w.heap.size = g at *
  go_loopw [10] (fun i wr => ∃ k : Nat, k ≤ xs.length ∧ i = .int .i64 (k : Nat) ∧ Hid (Gr w wr ∧ wr.heap[g]? = some (.cells #[.func (.func 73) #[] #[], .func (.func 76) #[] #[], .func (.func 79) #[] #[], .nilFunc] 87 (0, 0)) ∧ ∀ x ∈ xs.take k, keyBad x = false)) (fun i _ => xs.length - (intOf i).toNat)
  case atStart => exact ⟨0, by omega, rfl, HV.out.1, HV.out.2, fun x hx => by simp at hx⟩
  case round =>
    obtain ⟨k, hk, rfl, HR⟩ := hrel
    by_cases hlt : k < xs.length
    · rcases HX.out.1 with h0 | ⟨a, off, rfl, hcell⟩
      · subst h0; simp at hlt
      · have hget := List.getElem?_eq_getElem hlt
        have hxo := HX.out.2 xs[k] (List.getElem_mem hlt)
        have hmem := List.getElem_mem hlt
        have htk : ∀ b, keyBad xs[k] = b → (∀ x ∈ xs.take k, keyBad x = false) → b = false → ∀ x ∈ xs.take (k + 1), keyBad x = false := by
          intro b hb h1 h2 x hx
          rw [List.take_succ_eq_append_getElem hlt] at hx
          rcases List.mem_append.1 hx with hx | hx
          · exact h1 x hx
          · simp only [List.mem_singleton] at hx; subst hx; rw [hb, h2]
        generalize xs[k] = x at *
        obtain ⟨e0, e1⟩ := x
        have a0 := HR.out.1.cells (hcell k _ hget 0 _ rfl)
        have a1 := HR.out.1.cells (hcell k _ hget 1 _ rfl)
        simp only [Nat.add_zero] at a0
        have HC := Lib.hid (And.intro hcell (And.intro hget (And.intro hmem htk)))
        clear hcell hget hmem htk
        have cK := fun w1 => Lib.hid (sl_keyKid e0 e1 w1)
        have hgl := lt_of_row HR.out.2.1
        have HA : Hid ((wr.alloc (.cells #[.string e0, .int .u32 (e1 : Nat)] 61)).heap[g]? = some (.cells #[.func (.func 73) #[] #[], .func (.func 76) #[] #[], .func (.func 79) #[] #[], .nilFunc] 87 (0, 0))) := (((Gr.refl wr).alloc _).block hgl).trans HR.out.2.1
        have HA2 := Lib.hid (heap_alloc_last wr (.cells #[.string e0, .int .u32 (e1 : Nat)] 61))
        have s0 := row_cell HA.out 0 _ rfl
        have s1 := row_cell HA.out 1 _ rfl
        have s2 := row_cell HA.out 2 _ rfl
        have s3 := row_cell HA.out 3 _ rfl
        by_cases hb : 255 < e0.size
        · have hb1 : (255 : Int) < (e0.size : Int) := by omega
          have he : er = 5 := HE.out.trans (rErr_bad HC.out.2.2.1 (by simp [keyBad, hb]))
          subst he
          go_wp2_with ((go_at_call 79; refine (cK _).out.mono ?_; clear cK; rintro r v1 ⟨rfl, hg⟩; have HB := Lib.hid (And.intro ((hg.block (lt_of_row HA.out)).trans HA.out) ((hg.block (lt_of_row HA2.out)).trans HA2.out)); have HG1 : Hid (Gr w v1) := (HR.out.1.alloc _).trans hg; clear hg; have u3 := row_cell HB.out.1 3 _ rfl; have y0 := row_cell HB.out.2 0 _ rfl; have y1 := row_cell HB.out.2 1 _ rfl))
          go_ret
          exact ⟨rfl, HG1.out⟩
        · have hb1 : ¬ (255 : Int) < (e0.size : Int) := by omega
          go_wp2_with ((go_at_call 79; refine (cK _).out.mono ?_; clear cK; rintro r v1 ⟨rfl, hg⟩; have HB := Lib.hid (And.intro ((hg.block (lt_of_row HA.out)).trans HA.out) ((hg.block (lt_of_row HA2.out)).trans HA2.out)); have HG1 : Hid (Gr w v1) := (HR.out.1.alloc _).trans hg; clear hg; have u3 := row_cell HB.out.1 3 _ rfl; have y0 := row_cell HB.out.2 0 _ rfl; have y1 := row_cell HB.out.2 1 _ rfl))
          have HT : Hid (Gr w v1 ∧ v1.heap[g]? = some (.cells #[.func (.func 73) #[] #[], .func (.func 76) #[] #[], .func (.func 79) #[] #[], .nilFunc] 87 (0, 0)) ∧ ∀ x ∈ xs.take (k + 1), keyBad x = false) := ⟨HG1.out, HB.out.1, HC.out.2.2.2 _ rfl HR.out.2.2 (by simp [keyBad, hb])⟩
          clear HA HA2 HB HG1
          go_roundw
          case rel => exact ⟨k + 1, by omega, by go_num, HT⟩
          case measure => simp [intOf]; omega
    · obtain rfl : k = xs.length := by omega
      have HALL : Hid (∀ x ∈ xs, keyBad x = false) := by have h := HR.out.2.2; rw [List.take_length] at h; exact h
      have HV2 : Hid (Gr w wr ∧ wr.heap[g]? = some (.cells #[.func (.func 73) #[] #[], .func (.func 76) #[] #[], .func (.func 79) #[] #[], .nilFunc] 87 (0, 0))) := ⟨HR.out.1, HR.out.2.1⟩
      clear HR HV
      generalize wr = W1 at *
      go_wp2
      go_loopw [7] (fun i wr => ∃ k : Nat, k ≤ xs.length ∧ i = .int .i64 ((k + 1 : Nat) : Int) ∧ Hid (Gr w wr ∧ wr.heap[g]? = some (.cells #[.func (.func 73) #[] #[], .func (.func 76) #[] #[], .func (.func 79) #[] #[], .nilFunc] 87 (0, 0)) ∧ ∀ i a b, i < k → xs[i]? = some a → xs[i + 1]? = some b → SL a.1 b.1 = true)) (fun i _ => xs.length + 1 - (intOf i).toNat)
      case atStart => exact ⟨0, by omega, rfl, HV2.out.1, HV2.out.2, fun i a b h => by omega⟩
      case round =>
        obtain ⟨k, hk, rfl, HR⟩ := hrel
        by_cases hlt : k + 1 < xs.length
        · rcases HX.out.1 with h0 | ⟨a, off, rfl, hcell⟩
          · subst h0; simp at hlt
          · have hgx := List.getElem?_eq_getElem (show k < xs.length by omega)
            have hgy := List.getElem?_eq_getElem hlt
            generalize xs[k + 1] = y at *
            generalize xs[k] = x at *
            obtain ⟨e0, e1⟩ := x
            obtain ⟨f0, f1⟩ := y
            have a0 := HR.out.1.cells (hcell k _ hgx 0 _ rfl)
            have b0 := HR.out.1.cells (hcell (k + 1) _ hgy 0 _ rfl)
            have a1 := HR.out.1.cells (hcell k _ hgx 1 _ rfl)
            have b1 := HR.out.1.cells (hcell (k + 1) _ hgy 1 _ rfl)
            simp only [Nat.add_zero] at a0 b0
            have HC := Lib.hid (And.intro hcell (And.intro hgx hgy))
            clear hcell hgx hgy
            have cX := fun w1 => Lib.hid (sl_keyKid e0 e1 w1)
            have cY := fun w1 => Lib.hid (sl_keyKid f0 f1 w1)
            have hk1 : (0 : Int) ≤ (k : Int) + 1 - 1 := by omega
            have hk2 : ((k : Int) + 1 - 1) = (k : Int) := by omega
            have hk3 : wrap64 ((k : Int) + 1 - 1) = (k : Int) := by unfold wrap64; omega
            have hk4 : (k : Int) + 1 < (xs.length : Int) := by omega
            have hk5 : (k : Int) < (xs.length : Int) := by omega
            have hk6 : (0 : Int) ≤ (k : Int) + 1 := by omega
            have hk7 : ((k : Int) + 1).toNat = k + 1 := by omega
            have hk8 : (0 : Int) ≤ (k : Int) := by omega
            have hk9 : IntKind.i64.wrap (k : Int) = (k : Int) := by rw [IntKind.wrap_i64]; omega
            have hk10 : wrap64 (k : Int) = (k : Int) := by unfold wrap64; omega
            have hk11 : IntKind.i64.wrap ((k : Int) + 1 - 1) = (k : Int) := by rw [IntKind.wrap_i64]; omega
            have s0 := row_cell HR.out.2.1 0 _ rfl
            have s1 := row_cell HR.out.2.1 1 _ rfl
            have s2 := row_cell HR.out.2.1 2 _ rfl
            have s3 := row_cell HR.out.2.1 3 _ rfl
            go_wp2
            go_region_held3 (fun w' => w'.cell? ⟨g, 2, none⟩ = some (.func (.func 79) #[] #[]) ∧ w'.cell? ⟨a, off + k * 2, none⟩ = some (.string e0) ∧ w'.cell? ⟨a, off + k * 2 + 1, none⟩ = some (.int .u32 (e1 : Nat)) ∧ w'.cell? ⟨a, off + (k + 1) * 2, none⟩ = some (.string f0) ∧ w'.cell? ⟨a, off + (k + 1) * 2 + 1, none⟩ = some (.int .u32 (f1 : Nat))) (first | exact ⟨s2, a0, a1, b0, b1⟩ | exact HQ.out | assumption)
              (first
                | (go_at_call 79; refine (cX _).out.mono ?_; clear cX; rintro r v1 ⟨rfl, hg⟩; have HV1 : Hid (Gr wr v1) := (Gr.refl wr).drew.trans hg; have HQ := Lib.hid (And.intro (HV1.out.cells s2) (And.intro (HV1.out.cells a0) (And.intro (HV1.out.cells a1) (And.intro (HV1.out.cells b0) (HV1.out.cells b1))))); clear hg)
                | (go_at_call 79; refine (cY _).out.mono ?_; clear cY; rintro r v2 ⟨rfl, hg⟩; have HV3 : Hid (Gr wr v2) := HV1.out.trans hg; have HQ := Lib.hid (And.intro (HV3.out.cells s2) (And.intro (HV3.out.cells a0) (And.intro (HV3.out.cells a1) (And.intro (HV3.out.cells b0) (HV3.out.cells b1))))); clear hg))
            all_goals
              clear hk1 hk2 hk3 hk5 hk6 hk7 hk8 hk9 hk10 hk11
              by_cases ho : SL e0 f0 = true
              · have ho2 : Op.bytesLess e0.toList f0.toList = true := ho
                have HT : Hid (Gr w v2 ∧ v2.heap[g]? = some (.cells #[.func (.func 73) #[] #[], .func (.func 76) #[] #[], .func (.func 79) #[] #[], .nilFunc] 87 (0, 0)) ∧ ∀ i a b, i < k + 1 → xs[i]? = some a → xs[i + 1]? = some b → SL a.1 b.1 = true) := by
                  refine ⟨HR.out.1.trans HV3.out, (HV3.out.block (lt_of_row HR.out.2.1)).trans HR.out.2.1, ?_⟩
                  intro i a b hi h1 h2
                  by_cases hik : i = k
                  · subst hik
                    rw [HC.out.2.1] at h1; rw [HC.out.2.2] at h2
                    cases h1; cases h2; exact ho
                  · exact HR.out.2.2 i a b (by omega) h1 h2
                go_wp2
                all_goals first
                  | exact ⟨⟨k + 1, by omega, by go_num, HT⟩, by simp [intOf]; omega⟩
                  | (exfalso; simp_all; done)
              · have ho2 : Op.bytesLess e0.toList f0.toList = false := by simpa using ho
                have he : er = 30 := HE.out.trans (rErr_ord HALL.out HC.out.2.1 HC.out.2.2 ho2)
                subst he
                go_wp2
                all_goals first
                  | (go_ret; exact ⟨rfl, HR.out.1.trans HV3.out⟩)
                  | (exfalso; simp_all; done)
        · have hk4 : ¬ (k : Int) + 1 < (xs.length : Int) := by omega
          have he : er = 0 := HE.out.trans (rErr_ok HALL.out (fun i a b h1 h2 => HR.out.2.2 i a b (by
            rcases Nat.lt_or_ge (i + 1) xs.length with h | h
            · omega
            · rw [List.getElem?_eq_none h] at h2; cases h2) h1 h2))
          subst he
          go_wp2
          go_ret
          exact ⟨rfl, HR.out.1⟩
end Go.Proofs.Ytmpmfgkabjedpaa
namespace Go.Proofs.Ytmpmfgkabjedpaa
open Go.RowKit
set_option linter.unusedVariables false
set_option linter.unusedSimpArgs false
set_option maxRecDepth 100000
set_option maxHeartbeats 4000000
theorem rcB_size (leaf : Bool) (x : Ce) (h : ceOk x) : (rcB leaf x).size ≤ 60300 := by
  obtain ⟨k, v, c, l⟩ := x
  unfold rcB
  split
  · exact lfBytes_size k v c l h.2.1
  · have := kiBytes_size k c; simp only; omega
def rcSum (leaf : Bool) (xs : List Ce) : Nat := (xs.map fun x => 2 + (rcB leaf x).size).sum
theorem rcSum_snoc (leaf : Bool) (xs : List Ce) (k : Nat) (h : k < xs.length) : rcSum leaf (xs.take (k + 1)) = rcSum leaf (xs.take k) + (2 + (rcB leaf xs[k]).size) := by
  unfold rcSum
  rw [List.take_succ_eq_append_getElem h, List.map_append, List.sum_append]
  simp
theorem rf_sum (leaf : Bool) (A : Option Addr) (cap : Nat) (xs : List Ce) (hcap : xs.length ≤ cap) (hcm : cap ≤ maxLen) (hl : xs.length ≤ 4000) (hx : ∀ x ∈ xs, ceOk x) (w : World) (hs : SliceAt w A 4 ceCell xs) :
    Calls Try.prog 44 #[.slice A xs.length cap, .bool leaf] w fun r w' => r = .returned (.int .i64 ((rcSum leaf xs : Nat) : Int)) ∧ Gr w w' := by
  unfold maxLen at hcm
  have HX := Lib.hid (And.intro hs hx)
  clear hs hx
  go_enter Try.func44, Try.ntmps44
  go_wp2
  go_loopw [5, 10] (fun n i wr => ∃ k : Nat, k ≤ xs.length ∧ i = .int .i64 (k : Nat) ∧ n = .int .i64 ((rcSum leaf (xs.take k) : Nat) : Int) ∧ rcSum leaf (xs.take k) ≤ k * 60302 ∧ Hid (Gr w wr)) (fun _ i _ => xs.length - (intOf i).toNat)
  case atStart => exact ⟨0, by omega, rfl, rfl, by simp [rcSum], Gr.refl _⟩
  case round =>
    obtain ⟨k, hk, rfl, rfl, hb, HR⟩ := hrel
    by_cases hlt : k < xs.length
    · rcases HX.out.1 with h0 | ⟨a, off, rfl, hcell⟩
      · subst h0; simp at hlt
      · have hget := List.getElem?_eq_getElem hlt
        have hxo := HX.out.2 xs[k] (List.getElem_mem hlt)
        have hsn := rcSum_snoc leaf xs k hlt
        generalize xs[k] = x at *
        obtain ⟨e0, e1, e2, e3⟩ := x
        have a0 := HR.out.cells (hcell k _ hget 0 _ rfl)
        have a1 := HR.out.cells (hcell k _ hget 1 _ rfl)
        have a2 := HR.out.cells (hcell k _ hget 2 _ rfl)
        have a3 := HR.out.cells (hcell k _ hget 3 _ rfl)
        simp only [Nat.add_zero] at a0
        have HC := Lib.hid (And.intro hcell hget)
        clear hcell hget
        have hz := rcB_size leaf (e0, e1, e2, e3) hxo
        have cS := fun w1 => Lib.hid (rf_cell e0 e1 e2 e3 hxo.1 hxo.2.1 hxo.2.2.1 hxo.2.2.2 leaf w1)
        generalize rcB leaf (e0, e1, e2, e3) = q at *
        generalize rcSum leaf (xs.take k) = sm at *
        have HSN := Lib.hid hsn
        clear hsn
        go_wp2_with (go_at_call 80; refine (cS _).out.mono ?_; rintro r v1 ⟨rfl, hg⟩)
        have HT : Hid (Gr w v1) := (HR.out.alloc _).trans hg
        clear hg
        go_roundw
        case rel => exact ⟨k + 1, by omega, by go_num, (by rw [HSN.out]; go_num), (by rw [HSN.out]; omega), HT⟩
        case measure => simp [intOf]; omega
    · obtain rfl : k = xs.length := by omega
      rw [List.take_length] at *
      go_wp2
      go_ret
      exact ⟨rfl, HR.out⟩
def rcBad (leaf : Bool) (x : Ce) : Bool := decide (255 < x.1.size) || (leaf && !ceFits x.2.1 x.2.2.1)
noncomputable def rcErr (leaf : Bool) (xs : List Ce) : Int := rErr (rcBad leaf) (fun x => x.1) xs
theorem str_le (a b : ByteArray) (w : World) : (binOp .leq 9 (.string b) (.string a)).run Try.prog w = .ok (.bool (!Op.bytesLess a.toList b.toList)) w := by
  rw [binOp_string_leq, bl_total]; rfl
theorem rf_right (leaf : Bool) (A : Option Addr) (cap : Nat) (xs : List Ce) (hcap : xs.length ≤ cap) (hcm : cap ≤ maxLen) (hl : xs.length ≤ 4000) (hx : ∀ x ∈ xs, ceOk x) (w : World) (hs : SliceAt w A 4 ceCell xs) :
    Calls Try.prog 94 #[.slice A xs.length cap, .bool leaf] w fun r w' => r = .returned (.int .i64 (rcErr leaf xs)) ∧ Gr w w' := by
  unfold maxLen at hcm
  have HX := Lib.hid (And.intro hs hx)
  clear hs hx
  have HE : Hid (rcErr leaf xs = rErr (rcBad leaf) (fun x => x.1) xs) := rfl
  generalize rcErr leaf xs = er at *
  go_enter Try.func94, Try.ntmps94
  go_wp2
  go_loopw [10] (fun i wr => ∃ k : Nat, k ≤ xs.length ∧ i = .int .i64 (k : Nat) ∧ Hid (Gr w wr ∧ ∀ x ∈ xs.take k, rcBad leaf x = false)) (fun i _ => xs.length - (intOf i).toNat)
  case atStart => exact ⟨0, by omega, rfl, Gr.refl _, fun x hx => by simp at hx⟩
  case round =>
    obtain ⟨k, hk, rfl, HR⟩ := hrel
    by_cases hlt : k < xs.length
    · rcases HX.out.1 with h0 | ⟨a, off, rfl, hcell⟩
      · subst h0; simp at hlt
      · have hget := List.getElem?_eq_getElem hlt
        have hxo := HX.out.2 xs[k] (List.getElem_mem hlt)
        have hmem := List.getElem_mem hlt
        have htk : ∀ b, rcBad leaf xs[k] = b → (∀ x ∈ xs.take k, rcBad leaf x = false) → b = false → ∀ x ∈ xs.take (k + 1), rcBad leaf x = false := by
          intro b hb h1 h2 x hx
          rw [List.take_succ_eq_append_getElem hlt] at hx
          rcases List.mem_append.1 hx with hx | hx
          · exact h1 x hx
          · simp only [List.mem_singleton] at hx; subst hx; rw [hb, h2]
        generalize xs[k] = x at *
        obtain ⟨e0, e1, e2, e3⟩ := x
        have a0 := HR.out.1.cells (hcell k _ hget 0 _ rfl)
        have a1 := HR.out.1.cells (hcell k _ hget 1 _ rfl)
        have a2 := HR.out.1.cells (hcell k _ hget 2 _ rfl)
        have a3 := HR.out.1.cells (hcell k _ hget 3 _ rfl)
        simp only [Nat.add_zero] at a0
        have HC := Lib.hid (And.intro hcell (And.intro hget (And.intro hmem htk)))
        clear hcell hget hmem htk
        have HBAD := Lib.hid (fun h : rcBad leaf (e0, e1, e2, e3) = true => HE.out.trans (rErr_bad HC.out.2.2.1 h))
        have HOK : Hid (rcBad leaf (e0, e1, e2, e3) = false → ∀ x ∈ xs.take (k + 1), rcBad leaf x = false) := fun h => HC.out.2.2.2 _ h HR.out.2 rfl
        have HRB : Hid (rcBad leaf (e0, e1, e2, e3) = (decide (255 < e0.size) || (leaf && !(if e2 ≠ 0 then decide (e1.size = 0) else decide (e1.size ≤ 400))))) := rfl
        generalize rcBad leaf (e0, e1, e2, e3) = bd at *
        have hee : (0 : Int) < (e1.size : Int) ∨ e1.size = 0 := by omega
        have TAKE : Hid (bd = false → Gr w (wr.alloc (.cells #[.string e0, .string e1, .int .u32 (e2 : Nat), .int .u32 (e3 : Nat)] 59)) ∧ ∀ x ∈ xs.take (k + 1), rcBad leaf x = false) := fun h => ⟨HR.out.1.alloc _, HOK.out h⟩
        by_cases hb : 255 < e0.size
        · have hb1 : (255 : Int) < (e0.size : Int) := by omega
          have he : er = 5 := HBAD.out (by rw [HRB.out]; simp [hb])
          subst he
          go_wp2
          go_ret
          exact ⟨rfl, HR.out.1.alloc _⟩
        · have hb1 : ¬ (255 : Int) < (e0.size : Int) := by omega
          cases leaf with
          | false =>
            have hT := TAKE.out (by rw [HRB.out]; simp [hb])
            have HT := Lib.hid hT
            clear hT HRB HBAD HOK TAKE
            go_wp2
            go_roundw
            case rel => exact ⟨k + 1, by omega, by go_num, HT⟩
            case measure => simp [intOf]; omega
          | true =>
            by_cases hc : e2 = 0
            · subst hc
              have e00 : ((0 : Nat) : Int) = 0 := rfl
              simp only [e00] at a2 TAKE
              by_cases hv : e1.size ≤ 400
              · have hv1 : ¬ (400 : Int) < (e1.size : Int) := by omega
                have hT := TAKE.out (by rw [HRB.out]; simp [hb, hv])
                have HT := Lib.hid hT
                clear hT HRB HBAD HOK TAKE
                go_wp2
                go_roundw
                case rel => exact ⟨k + 1, by omega, by go_num, HT⟩
                case measure => simp [intOf]; omega
              · have hv1 : (400 : Int) < (e1.size : Int) := by omega
                have he : er = 5 := HBAD.out (by rw [HRB.out]; simp; omega)
                subst he
                go_wp2
                go_ret
                exact ⟨rfl, HR.out.1.alloc _⟩
            · have hne : ((e2 : Int) != 0) = true := by simp; omega
              have hne2 : ((e2 : Int) == 0) = false := by simp; omega
              by_cases hv : e1.size = 0
              · have hv1 : ¬ (0 : Int) < (e1.size : Int) := by omega
                have hT := TAKE.out (by rw [HRB.out]; simp [hb, hc, hv])
                have HT := Lib.hid hT
                clear hT HRB HBAD HOK TAKE
                go_wp2
                go_roundw
                case rel => exact ⟨k + 1, by omega, by go_num, HT⟩
                case measure => simp [intOf]; omega
              · have hv1 : (0 : Int) < (e1.size : Int) := by omega
                have he : er = 5 := HBAD.out (by rw [HRB.out, if_pos hc, decide_eq_false hv]; simp)
                subst he
                go_wp2
                go_ret
                exact ⟨rfl, HR.out.1.alloc _⟩
    · obtain rfl : k = xs.length := by omega
      have HALL : Hid (∀ x ∈ xs, rcBad leaf x = false) := by have h := HR.out.2; rw [List.take_length] at h; exact h
      have HV2 : Hid (Gr w wr) := HR.out.1
      clear HR
      generalize wr = W1 at *
      go_wp2
      go_loopw [7] (fun i wr => ∃ k : Nat, k ≤ xs.length ∧ i = .int .i64 ((k + 1 : Nat) : Int) ∧ Hid (Gr w wr ∧ ∀ i a b, i < k → xs[i]? = some a → xs[i + 1]? = some b → SL a.1 b.1 = true)) (fun i _ => xs.length + 1 - (intOf i).toNat)
      case atStart => exact ⟨0, by omega, rfl, HV2.out, fun i a b h => by omega⟩
      case round =>
        obtain ⟨k, hk, rfl, HR⟩ := hrel
        by_cases hlt : k + 1 < xs.length
        · rcases HX.out.1 with h0 | ⟨a, off, rfl, hcell⟩
          · subst h0; simp at hlt
          · have hgx := List.getElem?_eq_getElem (show k < xs.length by omega)
            have hgy := List.getElem?_eq_getElem hlt
            generalize xs[k + 1] = y at *
            generalize xs[k] = x at *
            obtain ⟨e0, e1, e2, e3⟩ := x
            obtain ⟨f0, f1, f2, f3⟩ := y
            have a0 := HR.out.1.cells (hcell k _ hgx 0 _ rfl)
            have b0 := HR.out.1.cells (hcell (k + 1) _ hgy 0 _ rfl)
            simp only [Nat.add_zero] at a0 b0
            have HC := Lib.hid (And.intro hcell (And.intro hgx hgy))
            clear hcell hgx hgy
            have hk4 : (k : Int) + 1 < (xs.length : Int) := by omega
            have hk5 : (k : Int) < (xs.length : Int) := by omega
            have hk6 : (0 : Int) ≤ (k : Int) + 1 := by omega
            have hk7 : ((k : Int) + 1).toNat = k + 1 := by omega
            have hk8 : (0 : Int) ≤ (k : Int) := by omega
            have hk9 : IntKind.i64.wrap (k : Int) = (k : Int) := by rw [IntKind.wrap_i64]; omega
            have hk10 : wrap64 (k : Int) = (k : Int) := by unfold wrap64; omega
            have hk11 : IntKind.i64.wrap ((k : Int) + 1 - 1) = (k : Int) := by rw [IntKind.wrap_i64]; omega
            have ht := bl_total e0.toList f0.toList
            by_cases ho : SL e0 f0 = true
            · have ho2 : Op.bytesLess e0.toList f0.toList = true := ho
              have HT : Hid (Gr w wr ∧ ∀ i a b, i < k + 1 → xs[i]? = some a → xs[i + 1]? = some b → SL a.1 b.1 = true) := by
                refine ⟨HR.out.1, ?_⟩
                intro i a b hi h1 h2
                by_cases hik : i = k
                · subst hik
                  rw [HC.out.2.1] at h1; rw [HC.out.2.2] at h2
                  cases h1; cases h2; exact ho
                · exact HR.out.2 i a b (by omega) h1 h2
              rw [ho2] at ht
              simp only [Bool.not_true, Bool.or_eq_false_iff] at ht
              obtain ⟨t1, t2⟩ := ht
              have t3 : ¬ f0.toList = e0.toList := by simpa using t2
              go_wp2
              go_quiet (fail)
              clear hk5 hk6 hk7 hk8 hk9 hk10 hk11
              go_wp2
              all_goals first
                | exact ⟨⟨k + 1, by omega, by go_num, HT.out.1.drewN _, HT.out.2⟩, by simp [intOf]; omega⟩
                | (exfalso; simp_all; done)
            · have ho2 : Op.bytesLess e0.toList f0.toList = false := by simpa using ho
              have he : er = 30 := HE.out.trans (rErr_ord HALL.out HC.out.2.1 HC.out.2.2 ho2)
              subst he
              rw [ho2] at ht
              go_wp2
              go_quiet (fail)
              clear hk5 hk6 hk7 hk8 hk9 hk10 hk11
              go_wp2
              all_goals first
                | (go_ret; exact ⟨rfl, HR.out.1.drewN _⟩)
                | (exfalso; simp_all; done)
        · have hk4 : ¬ (k : Int) + 1 < (xs.length : Int) := by omega
          have he : er = 0 := HE.out.trans (rErr_ok HALL.out (fun i a b h1 h2 => HR.out.2 i a b (by
            rcases Nat.lt_or_ge (i + 1) xs.length with h | h
            · omega
            · rw [List.getElem?_eq_none h] at h2; cases h2) h1 h2))
          subst he
          go_wp2
          go_ret
          exact ⟨rfl, HR.out.1⟩
end Go.Proofs.Ytmpmfgkabjedpaa
namespace Go.Proofs.Ytmpmfgkabjedpaa
open Go.RowKit
set_option linter.unusedVariables false
set_option linter.unusedSimpArgs false
set_option maxRecDepth 100000
set_option maxHeartbeats 1000000
theorem bld_check_used (b : Nat) (w : World) (h0 : w.cell? ⟨b, 0, none⟩ = some (.pointer (some ⟨b, 0, none⟩))) :
    Calls Try.prog 116 #[.pointer (some ⟨b, 0, none⟩)] w fun e w' => e = .returned (.tuple #[]) ∧ w' = w := by
  obtain ⟨j, hj, _⟩ := Option.map_eq_some_iff.1 (show (Try.prog.info? 135).map (·.size) = some 2 by kernel_rfl)
  go_enter Try.func116, Try.ntmps116
  go_wp2
  rw [Lib.run_neq_ptr_same w _ Try.underlying132 hj]
  go_wp2
  go_end0
  exact ⟨rfl, rfl⟩
theorem bld_check_fresh (b : Nat) (w : World) (h0 : w.cell? ⟨b, 0, none⟩ = some (.pointer none)) (hsh : w.shape? b = some (135, 2)) (hfz : w.frozen? ⟨b, 0, none⟩ = false) :
    Calls Try.prog 116 #[.pointer (some ⟨b, 0, none⟩)] w fun e w' => e = .returned (.tuple #[]) ∧ w' = w.setCell ⟨b, 0, none⟩ (.pointer (some ⟨b, 0, none⟩)) := by
  obtain ⟨j, hj, hjs⟩ := Option.map_eq_some_iff.1 (show (Try.prog.info? 135).map (·.size) = some 2 by kernel_rfl)
  go_enter Try.func116, Try.ntmps116
  go_wp2
  rw [Lib.run_to_unsafe w ⟨b, 0, none⟩ Try.underlying132 Try.underlying167 hj (by rw [hjs]; decide) hsh (Nat.zero_lt_succ 1)]
  simp only [Result.andThen]
  rw [Oper.upon_value]
  go_wp2
  rw [run_callFunc_extern Try.func121 (by kernel_rfl) (by kernel_rfl) (by kernel_rfl) (e := Extern.AbiNoEscape.same) (by kernel_rfl)]
  rw [Lib.run_noEscape]
  simp only [Result.andThen]
  rw [Oper.upon_value]
  go_wp2
  rw [Lib.run_from_unsafe w ⟨b, 0, none⟩ Try.underlying167 Try.underlying132 hj hsh (by kernel_rfl)]
  simp only [Result.andThen]
  rw [Oper.upon_value]
  go_wp2
  go_end0
  exact ⟨rfl, rfl⟩
theorem bld_check (B b : Nat) (bs : List Value) (w : World) (h : Lib.IsBuilder 135 5 B b bs w) :
    Calls Try.prog 116 #[.pointer (some ⟨b, 0, none⟩)] w fun e w' => e = .returned (.tuple #[]) ∧ (Lib.BuilderAt 135 5 B b (.pointer (some ⟨b, 0, none⟩)) bs w' ∧ Below B w w') := by
  rcases h with h | h
  · refine (bld_check_fresh b w h.cell0 h.shape h.frozen0).mono ?_
    rintro e w' ⟨rfl, rfl⟩
    exact ⟨rfl, h.used _, (Below.refl B w).setCell (p := ⟨b, 0, none⟩) h.1 _⟩
  · refine (bld_check_used b w h.cell0).mono ?_
    rintro e w' ⟨rfl, rfl⟩
    exact ⟨rfl, h, Below.refl B _⟩
theorem bld_infoByte : (Try.prog.info? 5).map (fun i => (i.zero, i.size, i.bytes)) = some (some (.int .u8 0), 1, 1) := by kernel_rfl
theorem bld_write (B b : Nat) (bs : List Value) (s : ByteArray) (w : World) (h : Lib.IsBuilder 135 5 B b bs w) (hlen : bs.length + s.size ≤ 140737488355328) (hBw : B ≤ w.heap.size) :
    Calls Try.prog 88 #[.pointer (some ⟨b, 0, none⟩), .string s] w fun e w' => e = .returned (.tuple #[.int .i64 s.size, .nilIface]) ∧ (Lib.BuilderAt 135 5 B b (.pointer (some ⟨b, 0, none⟩)) (bs ++ Lib.strCells s) w' ∧ Below B w w') := by
  obtain ⟨i0, hi, hz0, hz1, hz2⟩ := info_parts bld_infoByte
  go_enter Try.func88, Try.ntmps88
  go_wp2_with (go_at_call 116; refine (bld_check B b bs _ h).mono ?_)
  rintro e w1 ⟨rfl, h1, hb1⟩
  obtain ⟨hB, v, hbk, hown, hne⟩ := h1
  have c0 : w1.cell? ⟨b, 0, none⟩ = some (.pointer (some ⟨b, 0, none⟩)) := by rw [Lib.cell_of_heap hbk]; rfl
  have c1 : w1.cell? ⟨b, 1, none⟩ = some v := by rw [Lib.cell_of_heap hbk]; rfl
  go_wp2_with (at_builtin; refine Lib.wpList_append_own_string _ rfl _ _ 133 9 rfl B 5 i0 Try.underlying133 Try.underlying9 hi hz0 hz1 hz2 _ _ _ rfl hown s rfl ?c3 ?c4 ?c5 ?_)
  case c3 => unfold maxLen; omega
  case c4 => omega
  case c5 => have := hb1.size; omega
  intro v' w2 hown' hgrow _
  have hlt : b < w1.heap.size := by
    rcases Nat.lt_or_ge b w1.heap.size with h' | h'
    · exact h'
    · simp [Array.getElem?_eq_none h'] at hbk
  have hb2 : w2.heap[b]? = some (.cells #[.pointer (some ⟨b, 0, none⟩), v] 135 (0, 0)) := by
    rw [hgrow.block b hlt (fun e => hne e.symm)]
    exact hbk
  have d0 : w2.cell? ⟨b, 0, none⟩ = some (.pointer (some ⟨b, 0, none⟩)) := by rw [Lib.cell_of_heap hb2]; rfl
  have d1 : w2.cell? ⟨b, 1, none⟩ = some v := by rw [Lib.cell_of_heap hb2]; rfl
  have f1 : w2.frozen? ⟨b, 1, none⟩ = false := Lib.frozen_of_heap hb2 1
  obtain ⟨ao, n', cap, rfl⟩ : ∃ ao n' cap, v' = .slice ao n' cap := by
    rcases hown'.2 with ⟨hv, _⟩ | ⟨g, cap, cur, hv, _⟩
    · exact ⟨_, _, _, hv⟩
    · exact ⟨_, _, _, hv⟩
  go_wp2
  go_ret2
  refine ⟨rfl, ?_, ?_⟩
  · exact Lib.BuilderAt.put (T := 135) (e := 5) hB hb2 (bs' := bs ++ Lib.strCells s) (by simpa [Lib.strCells_length] using hown') (by decide)
  · exact (hb1.grown hgrow (by have := hb1.size; omega) (fun k hk => (hown.lt k hk).1)).setCell (p := ⟨b, 1, none⟩) hB _
end Go.Proofs.Ytmpmfgkabjedpaa
