/- Layer 6: what its laws call (printed by sllaw_gen.py). -/
import Derived.Test.YtmpmfgkabjedpaaSlRef3
import Derived.Test.YtmpmfgkabjedpaaSl5L
import Derived.Test.YtmpmfgkabjedpaaSl5K
import Derived.Test.YtmpmfgkabjedpaaOwn2
namespace Go.Proofs.Ytmpmfgkabjedpaa
open Go.RowKit
set_option linter.unusedVariables false
set_option linter.unusedSimpArgs false
set_option maxRecDepth 100000
set_option maxHeartbeats 4000000
theorem sl_leaves (w : World) : Calls Try.prog 37 #[] w fun r w' => r = .returned (.agg #[.func (.func 68) #[] #[], .func (.func 69) #[] #[], .func (.func 70) #[] #[], .func (.func 71) #[] #[]]) ∧ Gr w w' := by
  go_enter Try.func37, Try.ntmps37
  go_wp2
  refine bodyPost_ret (results_cell_row rfl _ _ w.heap.size _ #[.func (.func 68) #[] #[], .func (.func 69) #[] #[], .func (.func 70) #[] #[], .func (.func 71) #[] #[]] (0, 0) (.struct _) rfl (heap_alloc_last _ _) Try.underlying79 rfl (by kernel_rfl)) rfl ⟨rfl, (Gr.refl w).alloc _⟩
theorem sl_kids (w : World) : Calls Try.prog 40 #[] w fun r w' => r = .returned (.agg #[.func (.func 73) #[] #[], .func (.func 76) #[] #[], .func (.func 79) #[] #[], .nilFunc]) ∧ Gr w w' := by
  go_enter Try.func40, Try.ntmps40
  go_wp2
  refine bodyPost_ret (results_cell_row rfl _ _ w.heap.size _ #[.func (.func 73) #[] #[], .func (.func 76) #[] #[], .func (.func 79) #[] #[], .nilFunc] (0, 0) (.struct _) rfl (heap_alloc_last _ _) Try.underlying87 rfl (by kernel_rfl)) rfl ⟨rfl, (Gr.refl w).alloc _⟩
def ceFew (x : Ce) : Prop := x.1.size ≤ 300 ∧ x.2.1.size ≤ 500
def ceU (x : Ce) : Prop := x.2.2.1 < 4294967296 ∧ x.2.2.2 < 4294967296
theorem ceFew.ok {x : Ce} (h : ceFew x) (hu : ceU x) : ceOk x := ⟨by have := h.1; omega, by have := h.2; omega, hu.1, hu.2⟩
open Classical in
noncomputable def fewB (xs : List Ce) : Bool := decide ((xs = [] ∨ xs.length ≤ 400) ∧ ∀ x ∈ xs, ceFew x)
theorem fewB_of {xs : List Ce} (h : (xs = [] ∨ xs.length ≤ 400) ∧ ∀ x ∈ xs, ceFew x) : fewB xs = true := by
  unfold fewB; simp only [decide_eq_true_eq]; exact h
theorem fewB_not {xs : List Ce} (h : ¬ ((xs = [] ∨ xs.length ≤ 400) ∧ ∀ x ∈ xs, ceFew x)) : fewB xs = false := by
  unfold fewB; simp only [decide_eq_false_iff_not]; exact h
theorem fewB_true {xs : List Ce} (h : fewB xs = true) : xs.length ≤ 400 ∧ ∀ x ∈ xs, ceFew x := by
  by_cases h2 : (xs = [] ∨ xs.length ≤ 400) ∧ ∀ x ∈ xs, ceFew x
  · refine ⟨?_, h2.2⟩
    rcases h2.1 with rfl | h
    · simp
    · exact h
  · rw [fewB_not h2] at h; cases h
theorem law_few (A : Option Addr) (cap : Nat) (xs : List Ce) (hcap : xs.length ≤ cap) (hcm : cap ≤ maxLen) (w : World) (hs : SliceAt w A 4 ceCell xs) :
    Calls Try.prog 8 #[.slice A xs.length cap] w fun r w' => r = .returned (.bool (fewB xs)) ∧ Gr w w' := by
  unfold maxLen at hcm
  have HF : Hid (fewB xs = fewB xs) := rfl
  generalize hfb : fewB xs = fb at *
  replace HF := Lib.hid hfb
  clear hfb
  have HX := Lib.hid hs
  clear hs
  go_enter Try.func8, Try.ntmps8
  go_wp2
  go_loopw [7] (fun i wr => ∃ k : Nat, k ≤ xs.length ∧ i = .int .i64 (k : Nat) ∧ Hid (Gr w wr ∧ (0 < k → xs.length ≤ 400) ∧ ∀ x ∈ xs.take k, ceFew x)) (fun i _ => xs.length - (intOf i).toNat)
  case atStart => exact ⟨0, by omega, rfl, Gr.refl _, fun h => by omega, fun x hx => by simp at hx⟩
  case round =>
    obtain ⟨k, hk, rfl, HR⟩ := hrel
    by_cases hlt : k < xs.length
    · rcases HX.out with h0 | ⟨a, off, rfl, hcell⟩
      · subst h0; simp at hlt
      · have hget := List.getElem?_eq_getElem hlt
        have htk : ∀ x, xs[k] = x → ceFew x → (∀ x ∈ xs.take k, ceFew x) → ∀ x ∈ xs.take (k + 1), ceFew x := by
          intro y hy hf h1 x hx
          rw [List.take_succ_eq_append_getElem hlt] at hx
          rcases List.mem_append.1 hx with hx | hx
          · exact h1 x hx
          · simp only [List.mem_singleton] at hx; subst hx; rw [hy]; exact hf
        generalize xs[k] = x at *
        have htk := htk x rfl
        obtain ⟨e0, e1, e2, e3⟩ := x
        have a0 := HR.out.1.cells (hcell k _ hget 0 _ rfl)
        have a1 := HR.out.1.cells (hcell k _ hget 1 _ rfl)
        have a2 := HR.out.1.cells (hcell k _ hget 2 _ rfl)
        have a3 := HR.out.1.cells (hcell k _ hget 3 _ rfl)
        simp only [Nat.add_zero] at a0
        have HC := Lib.hid (And.intro hcell (And.intro hget htk))
        clear hcell hget htk
        by_cases h4 : 400 < xs.length
        · have h4' : (400 : Int) < (xs.length : Int) := by omega
          have hff : fb = false := by rw [← HF.out]; refine fewB_not ?_; rintro ⟨h1 | h1, _⟩; (· rw [h1] at hlt; simp at hlt); omega
          go_wp2
          go_ret
          exact ⟨(by first | rfl | exact ret_bool hff.symm), HR.out.1.alloc _⟩
        · have h4' : ¬ (400 : Int) < (xs.length : Int) := by omega
          by_cases h5 : 300 < e0.size
          · have h5' : (300 : Int) < (e0.size : Int) := by omega
            have hff : fb = false := by rw [← HF.out]; refine fewB_not ?_; rintro ⟨_, h1⟩; have h2 := (h1 _ (List.mem_of_getElem? HC.out.2.1)).1; simp only at h2; omega
            go_wp2
            go_ret
            exact ⟨(by first | rfl | exact ret_bool hff.symm), HR.out.1.alloc _⟩
          · have h5' : ¬ (300 : Int) < (e0.size : Int) := by omega
            by_cases h6 : 500 < e1.size
            · have h6' : (500 : Int) < (e1.size : Int) := by omega
              have hff : fb = false := by rw [← HF.out]; refine fewB_not ?_; rintro ⟨_, h1⟩; have h2 := (h1 _ (List.mem_of_getElem? HC.out.2.1)).2; simp only at h2; omega
              go_wp2
              go_ret
              exact ⟨(by first | rfl | exact ret_bool hff.symm), HR.out.1.alloc _⟩
            · have h6' : ¬ (500 : Int) < (e1.size : Int) := by omega
              have HT : Hid (Gr w (wr.alloc (.cells #[.string e0, .string e1, .int .u32 (e2 : Nat), .int .u32 (e3 : Nat)] 59)) ∧ (0 < k + 1 → xs.length ≤ 400) ∧ ∀ x ∈ xs.take (k + 1), ceFew x) := ⟨HR.out.1.alloc _, fun _ => by omega, HC.out.2.2 ⟨by simp only; omega, by simp only; omega⟩ HR.out.2.2⟩
              go_wp2
              go_roundw
              case rel => exact ⟨k + 1, by omega, by go_num, HT⟩
              case measure => simp [intOf]; omega
    · obtain rfl : k = xs.length := by omega
      go_wp2
      go_ret
      refine ⟨ret_bool ?_, HR.out.1⟩
      rw [← HF.out]; refine (fewB_of ⟨?_, ?_⟩).symm
      · cases xs with
        | nil => exact .inl rfl
        | cons x xs => exact .inr (HR.out.2.1 (by simp))
      · have h := HR.out.2.2; rw [List.take_length] at h; exact h
end Go.Proofs.Ytmpmfgkabjedpaa
