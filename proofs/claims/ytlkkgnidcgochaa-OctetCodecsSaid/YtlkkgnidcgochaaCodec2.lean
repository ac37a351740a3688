/- Layer 3: a codec's one thing: its bytes, and what bytes are. -/
import Derived.Test.YtlkkgnidcgochaaCodec1
namespace Go.Proofs.Ytlkkgnidcgochaa
open Go.RowKit
set_option linter.unusedVariables false
set_option linter.unusedSimpArgs false
set_option maxRecDepth 100000
set_option maxHeartbeats 1000000
theorem prC_eq : prC = .agg #[.func (.func 66) #[] #[], .func (.func 67) #[] #[]] := rfl
theorem cod_eq1 (w : World) : (binOp .eql 80 (.func (.func 66) #[] #[]) .nilFunc).run Try.prog w = .ok (.bool false) w := by kernel_rfl
theorem cod_eq2 (w : World) : (binOp .eql 81 (.func (.func 67) #[] #[]) .nilFunc).run Try.prog w = .ok (.bool false) w := by kernel_rfl
theorem cod_pairs (w : World) : Calls Try.prog 53 #[] w fun r w' => r = .returned prC ∧ Gr w w' := by
  go_enter Try.func53, Try.ntmps53
  go_wp2
  refine bodyPost_ret (results_cell_row rfl _ _ w.heap.size _ #[.func (.func 66) #[] #[], .func (.func 67) #[] #[]] (0, 0) (.struct _) rfl (heap_alloc_last _ _) Try.underlying83 rfl (by kernel_rfl)) rfl ⟨rfl, (Gr.refl w).alloc _⟩
theorem cod_bytes (x : Pr) (h1 : x.1 < 65536) (h2 : x.2.size ≤ 4611686018427387904) (w : World) :
    Calls Try.prog 68 #[prC, .agg #[.int .u16 (x.1 : Nat), .string x.2]] w fun r w' => r = .returned (.string (prBytes x)) ∧ Gr w w' := by
  have hn1 := cod_eq1
  have c1 := fun w1 => Lib.hid (cod_put x h1 h2 w1)
  obtain ⟨n, s⟩ := x
  simp only at h1 h2 c1
  rw [prC_eq]
  generalize prBytes (n, s) = q at *
  go_enter Try.func68, Try.ntmps68
  go_wp2_with (go_at_call 66; refine (c1 _).out.mono ?_; rintro r v1 ⟨rfl, hg⟩)
  go_ret
  exact ⟨rfl, (((Gr.refl w).alloc _).alloc _).trans hg⟩
def rdEndPair (s : ByteArray) : Pr × Int := if rdEnd (rdPair s 0).2.1 (rdPair s 0).2.2 = 0 then ((rdPair s 0).1, 0) else ((0, ByteArray.empty), rdEnd (rdPair s 0).2.1 (rdPair s 0).2.2)
theorem cod_read (s : ByteArray) (hs : s.size ≤ maxLen) (w : World) :
    Calls Try.prog 56 #[prC, .string s] w fun r w' => r = .returned (.tuple #[.agg #[.int .u16 ((rdEndPair s).1.1 : Nat), .string (rdEndPair s).1.2], .int .i64 (rdEndPair s).2]) ∧ Gr w w' := by
  have hn1 := cod_eq2
  rw [prC_eq]
  have C1 := fun b w1 (h : RdAt w1 b s 0) => cod_get b s hs 0 w1 h
  have HY : Hid (rdEndPair s = if rdEnd (rdPair s 0).2.1 (rdPair s 0).2.2 = 0 then ((rdPair s 0).1, 0) else ((0, ByteArray.empty), rdEnd (rdPair s 0).2.1 (rdPair s 0).2.2)) := rfl
  generalize rdEndPair s = y at *
  generalize rdPair s 0 = z at *
  obtain ⟨⟨n, t⟩, s', e'⟩ := z
  simp only at C1 HY
  by_cases hz : rdEnd s' e' = 0
  · have hzb : (rdEnd s' e' != 0) = false := by simp [hz]
    rw [if_pos hz] at HY
    obtain rfl := HY.out
    clear hz
    have HC := Lib.hid C1
    clear C1
    have HA := Lib.hid (heap_alloc3 w (.cells #[.func (.func 66) #[] #[], .func (.func 67) #[] #[]] 83) (.cells #[.int .u16 0, .string { data := #[] }] 87) (.cells #[.int .u16 0, .string { data := #[] }] 87))
    have HB : Hid (Gr w (((w.alloc (.cells #[.func (.func 66) #[] #[], .func (.func 67) #[] #[]] 83)).alloc (.cells #[.int .u16 0, .string { data := #[] }] 87)).alloc (.cells #[.int .u16 0, .string { data := #[] }] 87))) := (((Gr.refl w).alloc _).alloc _).alloc _
    have HS : Hid ((((w.alloc (.cells #[.func (.func 66) #[] #[], .func (.func 67) #[] #[]] 83)).alloc (.cells #[.int .u16 0, .string { data := #[] }] 87)).alloc (.cells #[.int .u16 0, .string { data := #[] }] 87)).heap.size = w.heap.size + 3) := by unfold Hid; rw [alloc_size, alloc_size, alloc_size]
    go_enter Try.func56, Try.ntmps56
    go_wp2_with (first
      | (go_at_call 29; refine (oct_over s _).mono ?_; rintro r v1 ⟨rfl, hr, hg⟩
         have HR : Hid (RdAt v1 (w.heap.size + 3) s 0) := by have h := hr; rw [HS.out] at h; exact h
         have HG : Hid (Gr w v1) := HB.out.trans hg
         have H0 := Lib.hid ((hg.block (k := w.heap.size) (by rw [HS.out]; omega)).trans HA.out.1)
         have H1 := Lib.hid ((hg.block (k := w.heap.size + 1) (by rw [HS.out]; omega)).trans HA.out.2.1)
         have H2 := Lib.hid ((hg.block (k := w.heap.size + 2) (by rw [HS.out]; omega)).trans HA.out.2.2)
         clear hr hg
         obtain ⟨p0, p1, _, _⟩ := At2.of_row H0.out)
      | (go_at_call 67; refine (HC.out _ _ HR.out).mono ?_; rintro r v2 ⟨rfl, hr, hc⟩
         have hl := HR.out.lt
         have hg3 := (Gr.refl v2).alloc (.cells #[.int .u16 (n : Nat), .string t] 87)
         have J1 := Lib.hid ((hg3.block (k := w.heap.size + 1) (by have := hc.size; omega)).trans ((hc.block _ (by omega) (by omega)).trans H1.out))
         have J2 := Lib.hid ((hg3.block (k := w.heap.size + 2) (by have := hc.size; omega)).trans ((hc.block _ (by omega) (by omega)).trans H2.out))
         have J3 := Lib.hid (heap_alloc_last v2 (.cells #[.int .u16 (n : Nat), .string t] 87))
         have JR := Lib.hid (hr.gr hg3)
         have JG : Hid (Gr w (v2.alloc (.cells #[.int .u16 (n : Nat), .string t] 87))) := (hc.gr HG.out (by omega)).trans hg3
         have JL : Hid (w.heap.size + 3 < v2.heap.size) := by have := hc.size; unfold Hid; omega
         clear hr hc hl hg3
         obtain ⟨a0, a1, a2, a3⟩ := At2.of_row J1.out
         obtain ⟨b0, b1, _, _⟩ := At2.of_row J2.out
         obtain ⟨d0, d1, _, _⟩ := At2.of_row J3.out)
      | (go_at_call 35; refine (oct_end _ _ _ _ JR.out).mono ?_; rintro r v3 ⟨rfl, rfl⟩))
    refine bodyPost_ret (results_cell_tmp_row rfl _ _ (w.heap.size + 1) _ #[.int .u16 (n : Nat), .string t] (0, 0) (.struct _) rfl (heap_setCell_same _ _ 1 _ _ _ (heap_setCell_same _ _ 0 _ _ _ J1.out)) Try.underlying87 rfl (by kernel_rfl)) rfl ⟨rfl, (JG.out.setCell (Nat.le_succ _) _).setCell (Nat.le_succ _) _⟩
  · have hzb : (rdEnd s' e' != 0) = true := by simp [hz]
    rw [if_neg hz] at HY
    obtain rfl := HY.out
    clear hz
    have HC := Lib.hid C1
    clear C1
    have HA := Lib.hid (heap_alloc3 w (.cells #[.func (.func 66) #[] #[], .func (.func 67) #[] #[]] 83) (.cells #[.int .u16 0, .string { data := #[] }] 87) (.cells #[.int .u16 0, .string { data := #[] }] 87))
    have HB : Hid (Gr w (((w.alloc (.cells #[.func (.func 66) #[] #[], .func (.func 67) #[] #[]] 83)).alloc (.cells #[.int .u16 0, .string { data := #[] }] 87)).alloc (.cells #[.int .u16 0, .string { data := #[] }] 87))) := (((Gr.refl w).alloc _).alloc _).alloc _
    have HS : Hid ((((w.alloc (.cells #[.func (.func 66) #[] #[], .func (.func 67) #[] #[]] 83)).alloc (.cells #[.int .u16 0, .string { data := #[] }] 87)).alloc (.cells #[.int .u16 0, .string { data := #[] }] 87)).heap.size = w.heap.size + 3) := by unfold Hid; rw [alloc_size, alloc_size, alloc_size]
    go_enter Try.func56, Try.ntmps56
    go_wp2_with (first
      | (go_at_call 29; refine (oct_over s _).mono ?_; rintro r v1 ⟨rfl, hr, hg⟩
         have HR : Hid (RdAt v1 (w.heap.size + 3) s 0) := by have h := hr; rw [HS.out] at h; exact h
         have HG : Hid (Gr w v1) := HB.out.trans hg
         have H0 := Lib.hid ((hg.block (k := w.heap.size) (by rw [HS.out]; omega)).trans HA.out.1)
         have H1 := Lib.hid ((hg.block (k := w.heap.size + 1) (by rw [HS.out]; omega)).trans HA.out.2.1)
         have H2 := Lib.hid ((hg.block (k := w.heap.size + 2) (by rw [HS.out]; omega)).trans HA.out.2.2)
         clear hr hg
         obtain ⟨p0, p1, _, _⟩ := At2.of_row H0.out)
      | (go_at_call 67; refine (HC.out _ _ HR.out).mono ?_; rintro r v2 ⟨rfl, hr, hc⟩
         have hl := HR.out.lt
         have hg3 := (Gr.refl v2).alloc (.cells #[.int .u16 (n : Nat), .string t] 87)
         have J1 := Lib.hid ((hg3.block (k := w.heap.size + 1) (by have := hc.size; omega)).trans ((hc.block _ (by omega) (by omega)).trans H1.out))
         have J2 := Lib.hid ((hg3.block (k := w.heap.size + 2) (by have := hc.size; omega)).trans ((hc.block _ (by omega) (by omega)).trans H2.out))
         have J3 := Lib.hid (heap_alloc_last v2 (.cells #[.int .u16 (n : Nat), .string t] 87))
         have JR := Lib.hid (hr.gr hg3)
         have JG : Hid (Gr w (v2.alloc (.cells #[.int .u16 (n : Nat), .string t] 87))) := (hc.gr HG.out (by omega)).trans hg3
         have JL : Hid (w.heap.size + 3 < v2.heap.size) := by have := hc.size; unfold Hid; omega
         clear hr hc hl hg3
         obtain ⟨a0, a1, a2, a3⟩ := At2.of_row J1.out
         obtain ⟨b0, b1, _, _⟩ := At2.of_row J2.out
         obtain ⟨d0, d1, _, _⟩ := At2.of_row J3.out)
      | (go_at_call 35; refine (oct_end _ _ _ _ JR.out).mono ?_; rintro r v3 ⟨rfl, rfl⟩))
    refine bodyPost_ret (results_cell_tmp_row rfl _ _ (w.heap.size + 1) _ #[.int .u16 (0 : Nat), .string ByteArray.empty] (0, 0) (.struct _) rfl (heap_setCell_same _ _ 1 _ _ _ (heap_setCell_same _ _ 0 _ _ _ J1.out)) Try.underlying87 rfl (by kernel_rfl)) rfl ⟨rfl, (JG.out.setCell (Nat.le_succ _) _).setCell (Nat.le_succ _) _⟩
end Go.Proofs.Ytlkkgnidcgochaa
