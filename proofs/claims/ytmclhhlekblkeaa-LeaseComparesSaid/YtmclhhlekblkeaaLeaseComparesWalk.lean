/- The law LeaseCompares, walked (printed by lecompares_gen.py). -/
import Derived.Test.YtmclhhlekblkeaaLeAw
import Derived.Test.YtmclhhlekblkeaaLeCmp2
namespace Go.Proofs.Ytmclhhlekblkeaa
open Go.RowKit Go.Shelf
set_option linter.unusedVariables false
set_option linter.unusedSimpArgs false
set_option maxRecDepth 100000
set_option maxHeartbeats 2000000
theorem rf_ahead (a0 b0 : ByteArray) (a1 b1 : Nat) (w : World) : Calls Try.prog 7 #[.agg #[.string a0, .int .u64 (a1 : Nat), .int .u64 0], .agg #[.string b0, .int .u64 (b1 : Nat), .int .u64 0]] w fun r w' => r = .returned (.bool (Op.bytesLess a0.toList b0.toList || (a0.toList == b0.toList && decide ((a1 : Int) < (b1 : Int))))) ∧ Gr w w' := by
  have HG := Lib.hid (((Gr.refl w).alloc (.cells #[.string a0, .int .u64 (a1 : Nat), .int .u64 0] 28)).alloc (.cells #[.string b0, .int .u64 (b1 : Nat), .int .u64 0] 28))
  have R0 := rowA (heap_alloc_last w (.cells #[.string a0, .int .u64 (a1 : Nat), .int .u64 0] 28)) (.cells #[.string b0, .int .u64 (b1 : Nat), .int .u64 0] 28)
  have R1 := heap_alloc_last (w.alloc (.cells #[.string a0, .int .u64 (a1 : Nat), .int .u64 0] 28)) (.cells #[.string b0, .int .u64 (b1 : Nat), .int .u64 0] 28)
  rw [alloc_size] at R1
  go_enter Try.func7, Try.ntmps7
  go_wp2
  all_goals go_ret
  all_goals exact ⟨by simp_all, HG.out⟩
def kyAh (a b : Ky) : Bool := Op.bytesLess a.1.toList b.1.toList || (a.1.toList == b.1.toList && decide ((a.2 : Int) < (b.2 : Int)))
theorem bl_irr (s : List UInt8) : Op.bytesLess s s = false := by
  rw [Go.Proofs.bytesLess_eq]; simp [List.lt_irrefl]
theorem bl_asym {s t : List UInt8} (h : Op.bytesLess s t = true) : Op.bytesLess t s = false := by
  rw [Go.Proofs.bytesLess_eq] at *
  simp only [decide_eq_true_eq, decide_eq_false_iff_not] at *
  exact fun h2 => List.lt_irrefl _ (List.lt_trans h h2)
theorem bl_tri {s t : List UInt8} (h1 : Op.bytesLess s t = false) (h2 : Op.bytesLess t s = false) : s = t := by
  rw [Go.Proofs.bytesLess_eq] at *
  simp only [decide_eq_false_iff_not] at *
  exact List.le_antisymm (List.not_lt.1 h2) (List.not_lt.1 h1)
theorem ky_three (a0 b0 : ByteArray) (a1 b1 : Nat) : ((kyAh (a0, a1) (b0, b1) = true ∧ kyCmp (a0, a1) (b0, b1) = -1 ∧ kyCmp (b0, b1) (a0, a1) = 1) ∧ ¬ (a0.toList = b0.toList ∧ a1 = b1)) ∨ ((kyAh (a0, a1) (b0, b1) = false ∧ kyCmp (a0, a1) (b0, b1) = 1 ∧ kyCmp (b0, b1) (a0, a1) = -1) ∧ ¬ (a0.toList = b0.toList ∧ a1 = b1)) ∨ ((kyAh (a0, a1) (b0, b1) = false ∧ kyCmp (a0, a1) (b0, b1) = 0 ∧ kyCmp (b0, b1) (a0, a1) = 0) ∧ (a0.toList = b0.toList ∧ a1 = b1)) := by
  unfold kyAh kyCmp
  simp only
  cases h1 : Op.bytesLess a0.toList b0.toList with
  | true =>
    have h2 := bl_asym h1
    have hne : ¬ a0.toList = b0.toList := fun h => by rw [h, bl_irr] at h1; cases h1
    rw [h2]
    exact .inl ⟨⟨rfl, by simp [sgn], by simp [sgn]⟩, fun h => hne h.1⟩
  | false =>
    cases h2 : Op.bytesLess b0.toList a0.toList with
    | true =>
      have hne : ¬ a0.toList = b0.toList := fun h => by rw [h, bl_irr] at h2; cases h2
      exact .inr (.inl ⟨⟨by simp [hne], by simp [sgn], by simp [sgn]⟩, fun h => hne h.1⟩)
    | false =>
      have he := bl_tri h1 h2
      rw [he]
      rcases Nat.lt_trichotomy a1 b1 with h | h | h
      · exact .inl ⟨⟨by simp [h], by simp [sgn, h], by simp [sgn, h, Nat.lt_asymm h]⟩, fun h3 => by omega⟩
      · subst h
        exact .inr (.inr ⟨⟨by simp, by simp [sgn], by simp [sgn]⟩, rfl, rfl⟩)
      · exact .inr (.inl ⟨⟨by simp; omega, by simp [sgn, h, Nat.lt_asymm h], by simp [sgn, h]⟩, fun h3 => by omega⟩)
theorem walk_LeaseCompares_ (a0 b0 : ByteArray) (a1 b1 : Nat) (w : World) :
    Calls Try.prog 3 #[.agg #[.string a0, .int .u64 (a1 : Nat)], .agg #[.string b0, .int .u64 (b1 : Nat)]] w fun e w' => e = .returned (.bool true) ∧ Gr w w' := by
  have cA := fun w1 => Lib.hid (law23_awake w1)
  by_cases hs1 : 300 < a0.size
  · have hs1' : (300 : Int) < (a0.size : Int) := by omega
    clear hs1
    go_enter Try.func3, Try.ntmps3
    go_wp2_with (first
      | (go_at_call 6; refine (cA _).out.mono ?_; clear cA; rintro r v1 ⟨rfl, hg⟩; have HPv1 : Hid ((Gr w v1) ∧ (RowT v1 w.heap.size #[.string a0, .int .u64 (a1 : Nat)] 24) ∧ (RowT v1 (w.heap.size + 1) #[.string b0, .int .u64 (b1 : Nat)] 24) ∧ (True)) := ⟨((((Gr.refl w).alloc (.cells #[.string a0, .int .u64 (a1 : Nat)] 24)).alloc (.cells #[.string b0, .int .u64 (b1 : Nat)] 24)).trans hg), RowT.gr (rows2 w (.cells #[.string a0, .int .u64 (a1 : Nat)] 24) (.cells #[.string b0, .int .u64 (b1 : Nat)] 24)).1 hg, RowT.gr (rows2 w (.cells #[.string a0, .int .u64 (a1 : Nat)] 24) (.cells #[.string b0, .int .u64 (b1 : Nat)] 24)).2 hg, trivial⟩; have rc1_0_0 := RowT.cell (HPv1.out.2.1) 0 _ rfl; have rc1_0_1 := RowT.cell (HPv1.out.2.1) 1 _ rfl; have rc1_1_0 := RowT.cell (HPv1.out.2.2.1) 0 _ rfl; have rc1_1_1 := RowT.cell (HPv1.out.2.2.1) 1 _ rfl; clear hg))
    go_ret
    exact ⟨rfl, HPv1.out.1⟩
  have hs1' : ¬ (300 : Int) < (a0.size : Int) := by omega
  by_cases hs2 : 300 < b0.size
  · have hs2' : (300 : Int) < (b0.size : Int) := by omega
    clear hs1 hs2
    go_enter Try.func3, Try.ntmps3
    go_wp2_with (first
      | (go_at_call 6; refine (cA _).out.mono ?_; clear cA; rintro r v1 ⟨rfl, hg⟩; have HPv1 : Hid ((Gr w v1) ∧ (RowT v1 w.heap.size #[.string a0, .int .u64 (a1 : Nat)] 24) ∧ (RowT v1 (w.heap.size + 1) #[.string b0, .int .u64 (b1 : Nat)] 24) ∧ (True)) := ⟨((((Gr.refl w).alloc (.cells #[.string a0, .int .u64 (a1 : Nat)] 24)).alloc (.cells #[.string b0, .int .u64 (b1 : Nat)] 24)).trans hg), RowT.gr (rows2 w (.cells #[.string a0, .int .u64 (a1 : Nat)] 24) (.cells #[.string b0, .int .u64 (b1 : Nat)] 24)).1 hg, RowT.gr (rows2 w (.cells #[.string a0, .int .u64 (a1 : Nat)] 24) (.cells #[.string b0, .int .u64 (b1 : Nat)] 24)).2 hg, trivial⟩; have rc1_0_0 := RowT.cell (HPv1.out.2.1) 0 _ rfl; have rc1_0_1 := RowT.cell (HPv1.out.2.1) 1 _ rfl; have rc1_1_0 := RowT.cell (HPv1.out.2.2.1) 0 _ rfl; have rc1_1_1 := RowT.cell (HPv1.out.2.2.1) 1 _ rfl; clear hg))
    go_ret
    exact ⟨rfl, HPv1.out.1⟩
  have hs2' : ¬ (300 : Int) < (b0.size : Int) := by omega
  clear hs1 hs2
  have cH := fun w1 => Lib.hid (rf_ahead a0 b0 a1 b1 w1)
  have cC1 := fun w1 => Lib.hid (le_compare a0 b0 a1 b1 w1)
  have cC2 := fun w1 => Lib.hid (le_compare b0 a0 b1 a1 w1)
  rcases ky_three a0 b0 a1 b1 with ⟨⟨h1, h2, h3⟩, he⟩ | ⟨⟨h1, h2, h3⟩, he⟩ | ⟨⟨h1, h2, h3⟩, he1, he2⟩
  · unfold kyAh at h1
    simp only at h1
    rw [h1] at cH
    rw [h2] at cC1
    rw [h3] at cC2
    by_cases h : a0.toList = b0.toList
    · have hq : (a0.toList == b0.toList) = true := by rw [h]; simp
      have hn : ¬ a1 = b1 := fun h4 => he ⟨h, h4⟩
      have hn2 : ¬ (a1 : Int) = (b1 : Int) := fun h4 => hn (by omega)
      clear h1 h2 h3 he h
      go_enter Try.func3, Try.ntmps3
      go_wp2_with (first
        | (go_at_call 6; refine (cA _).out.mono ?_; clear cA; rintro r v1 ⟨rfl, hg⟩; have HPv1 : Hid ((Gr w v1) ∧ (RowT v1 w.heap.size #[.string a0, .int .u64 (a1 : Nat)] 24) ∧ (RowT v1 (w.heap.size + 1) #[.string b0, .int .u64 (b1 : Nat)] 24) ∧ (True)) := ⟨((((Gr.refl w).alloc (.cells #[.string a0, .int .u64 (a1 : Nat)] 24)).alloc (.cells #[.string b0, .int .u64 (b1 : Nat)] 24)).trans hg), RowT.gr (rows2 w (.cells #[.string a0, .int .u64 (a1 : Nat)] 24) (.cells #[.string b0, .int .u64 (b1 : Nat)] 24)).1 hg, RowT.gr (rows2 w (.cells #[.string a0, .int .u64 (a1 : Nat)] 24) (.cells #[.string b0, .int .u64 (b1 : Nat)] 24)).2 hg, trivial⟩; have rc1_0_0 := RowT.cell (HPv1.out.2.1) 0 _ rfl; have rc1_0_1 := RowT.cell (HPv1.out.2.1) 1 _ rfl; have rc1_1_0 := RowT.cell (HPv1.out.2.2.1) 0 _ rfl; have rc1_1_1 := RowT.cell (HPv1.out.2.2.1) 1 _ rfl; clear hg)
        | (go_at_call 7; refine (cH _).out.mono ?_; clear cH; rintro r v2 ⟨rfl, hg⟩; have HPv2 : Hid ((Gr w v2) ∧ (RowT v2 w.heap.size #[.string a0, .int .u64 (a1 : Nat)] 24) ∧ (RowT v2 (w.heap.size + 1) #[.string b0, .int .u64 (b1 : Nat)] 24) ∧ (True)) := ⟨HPv1.out.1.trans hg, (HPv1.out.2.1).gr hg, (HPv1.out.2.2.1).gr hg, trivial⟩; have rc2_0_0 := RowT.cell (HPv2.out.2.1) 0 _ rfl; have rc2_0_1 := RowT.cell (HPv2.out.2.1) 1 _ rfl; have rc2_1_0 := RowT.cell (HPv2.out.2.2.1) 0 _ rfl; have rc2_1_1 := RowT.cell (HPv2.out.2.2.1) 1 _ rfl; clear hg)
        | (go_at_call 8; refine (cC1 _).out.mono ?_; clear cC1; rintro r v3 ⟨rfl, hg⟩; have HPv3 : Hid ((Gr w v3) ∧ (RowT v3 w.heap.size #[.string a0, .int .u64 (a1 : Nat)] 24) ∧ (RowT v3 (w.heap.size + 1) #[.string b0, .int .u64 (b1 : Nat)] 24) ∧ (True)) := ⟨HPv2.out.1.trans hg, (HPv2.out.2.1).gr hg, (HPv2.out.2.2.1).gr hg, trivial⟩; have rc3_0_0 := RowT.cell (HPv3.out.2.1) 0 _ rfl; have rc3_0_1 := RowT.cell (HPv3.out.2.1) 1 _ rfl; have rc3_1_0 := RowT.cell (HPv3.out.2.2.1) 0 _ rfl; have rc3_1_1 := RowT.cell (HPv3.out.2.2.1) 1 _ rfl; clear hg)
        | (go_at_call 8; refine (cC2 _).out.mono ?_; clear cC2; rintro r v4 ⟨rfl, hg⟩; have HPv4 : Hid ((Gr w v4) ∧ (RowT v4 w.heap.size #[.string a0, .int .u64 (a1 : Nat)] 24) ∧ (RowT v4 (w.heap.size + 1) #[.string b0, .int .u64 (b1 : Nat)] 24) ∧ (True)) := ⟨HPv3.out.1.trans hg, (HPv3.out.2.1).gr hg, (HPv3.out.2.2.1).gr hg, trivial⟩; have rc4_0_0 := RowT.cell (HPv4.out.2.1) 0 _ rfl; have rc4_0_1 := RowT.cell (HPv4.out.2.1) 1 _ rfl; have rc4_1_0 := RowT.cell (HPv4.out.2.2.1) 0 _ rfl; have rc4_1_1 := RowT.cell (HPv4.out.2.2.1) 1 _ rfl; clear hg))
      go_ret
      exact ⟨rfl, HPv4.out.1⟩
    · have hq : (a0.toList == b0.toList) = false := by simpa using h
      clear h1 h2 h3 he h
      go_enter Try.func3, Try.ntmps3
      go_wp2_with (first
        | (go_at_call 6; refine (cA _).out.mono ?_; clear cA; rintro r v1 ⟨rfl, hg⟩; have HPv1 : Hid ((Gr w v1) ∧ (RowT v1 w.heap.size #[.string a0, .int .u64 (a1 : Nat)] 24) ∧ (RowT v1 (w.heap.size + 1) #[.string b0, .int .u64 (b1 : Nat)] 24) ∧ (True)) := ⟨((((Gr.refl w).alloc (.cells #[.string a0, .int .u64 (a1 : Nat)] 24)).alloc (.cells #[.string b0, .int .u64 (b1 : Nat)] 24)).trans hg), RowT.gr (rows2 w (.cells #[.string a0, .int .u64 (a1 : Nat)] 24) (.cells #[.string b0, .int .u64 (b1 : Nat)] 24)).1 hg, RowT.gr (rows2 w (.cells #[.string a0, .int .u64 (a1 : Nat)] 24) (.cells #[.string b0, .int .u64 (b1 : Nat)] 24)).2 hg, trivial⟩; have rc1_0_0 := RowT.cell (HPv1.out.2.1) 0 _ rfl; have rc1_0_1 := RowT.cell (HPv1.out.2.1) 1 _ rfl; have rc1_1_0 := RowT.cell (HPv1.out.2.2.1) 0 _ rfl; have rc1_1_1 := RowT.cell (HPv1.out.2.2.1) 1 _ rfl; clear hg)
        | (go_at_call 7; refine (cH _).out.mono ?_; clear cH; rintro r v2 ⟨rfl, hg⟩; have HPv2 : Hid ((Gr w v2) ∧ (RowT v2 w.heap.size #[.string a0, .int .u64 (a1 : Nat)] 24) ∧ (RowT v2 (w.heap.size + 1) #[.string b0, .int .u64 (b1 : Nat)] 24) ∧ (True)) := ⟨HPv1.out.1.trans hg, (HPv1.out.2.1).gr hg, (HPv1.out.2.2.1).gr hg, trivial⟩; have rc2_0_0 := RowT.cell (HPv2.out.2.1) 0 _ rfl; have rc2_0_1 := RowT.cell (HPv2.out.2.1) 1 _ rfl; have rc2_1_0 := RowT.cell (HPv2.out.2.2.1) 0 _ rfl; have rc2_1_1 := RowT.cell (HPv2.out.2.2.1) 1 _ rfl; clear hg)
        | (go_at_call 8; refine (cC1 _).out.mono ?_; clear cC1; rintro r v3 ⟨rfl, hg⟩; have HPv3 : Hid ((Gr w v3) ∧ (RowT v3 w.heap.size #[.string a0, .int .u64 (a1 : Nat)] 24) ∧ (RowT v3 (w.heap.size + 1) #[.string b0, .int .u64 (b1 : Nat)] 24) ∧ (True)) := ⟨HPv2.out.1.trans hg, (HPv2.out.2.1).gr hg, (HPv2.out.2.2.1).gr hg, trivial⟩; have rc3_0_0 := RowT.cell (HPv3.out.2.1) 0 _ rfl; have rc3_0_1 := RowT.cell (HPv3.out.2.1) 1 _ rfl; have rc3_1_0 := RowT.cell (HPv3.out.2.2.1) 0 _ rfl; have rc3_1_1 := RowT.cell (HPv3.out.2.2.1) 1 _ rfl; clear hg)
        | (go_at_call 8; refine (cC2 _).out.mono ?_; clear cC2; rintro r v4 ⟨rfl, hg⟩; have HPv4 : Hid ((Gr w v4) ∧ (RowT v4 w.heap.size #[.string a0, .int .u64 (a1 : Nat)] 24) ∧ (RowT v4 (w.heap.size + 1) #[.string b0, .int .u64 (b1 : Nat)] 24) ∧ (True)) := ⟨HPv3.out.1.trans hg, (HPv3.out.2.1).gr hg, (HPv3.out.2.2.1).gr hg, trivial⟩; have rc4_0_0 := RowT.cell (HPv4.out.2.1) 0 _ rfl; have rc4_0_1 := RowT.cell (HPv4.out.2.1) 1 _ rfl; have rc4_1_0 := RowT.cell (HPv4.out.2.2.1) 0 _ rfl; have rc4_1_1 := RowT.cell (HPv4.out.2.2.1) 1 _ rfl; clear hg))
      go_ret
      exact ⟨rfl, HPv4.out.1⟩
  · unfold kyAh at h1
    simp only at h1
    rw [h1] at cH
    rw [h2] at cC1
    rw [h3] at cC2
    by_cases h : a0.toList = b0.toList
    · have hq : (a0.toList == b0.toList) = true := by rw [h]; simp
      have hn : ¬ a1 = b1 := fun h4 => he ⟨h, h4⟩
      have hn2 : ¬ (a1 : Int) = (b1 : Int) := fun h4 => hn (by omega)
      clear h1 h2 h3 he h
      go_enter Try.func3, Try.ntmps3
      go_wp2_with (first
        | (go_at_call 6; refine (cA _).out.mono ?_; clear cA; rintro r v1 ⟨rfl, hg⟩; have HPv1 : Hid ((Gr w v1) ∧ (RowT v1 w.heap.size #[.string a0, .int .u64 (a1 : Nat)] 24) ∧ (RowT v1 (w.heap.size + 1) #[.string b0, .int .u64 (b1 : Nat)] 24) ∧ (True)) := ⟨((((Gr.refl w).alloc (.cells #[.string a0, .int .u64 (a1 : Nat)] 24)).alloc (.cells #[.string b0, .int .u64 (b1 : Nat)] 24)).trans hg), RowT.gr (rows2 w (.cells #[.string a0, .int .u64 (a1 : Nat)] 24) (.cells #[.string b0, .int .u64 (b1 : Nat)] 24)).1 hg, RowT.gr (rows2 w (.cells #[.string a0, .int .u64 (a1 : Nat)] 24) (.cells #[.string b0, .int .u64 (b1 : Nat)] 24)).2 hg, trivial⟩; have rc1_0_0 := RowT.cell (HPv1.out.2.1) 0 _ rfl; have rc1_0_1 := RowT.cell (HPv1.out.2.1) 1 _ rfl; have rc1_1_0 := RowT.cell (HPv1.out.2.2.1) 0 _ rfl; have rc1_1_1 := RowT.cell (HPv1.out.2.2.1) 1 _ rfl; clear hg)
        | (go_at_call 7; refine (cH _).out.mono ?_; clear cH; rintro r v2 ⟨rfl, hg⟩; have HPv2 : Hid ((Gr w v2) ∧ (RowT v2 w.heap.size #[.string a0, .int .u64 (a1 : Nat)] 24) ∧ (RowT v2 (w.heap.size + 1) #[.string b0, .int .u64 (b1 : Nat)] 24) ∧ (True)) := ⟨HPv1.out.1.trans hg, (HPv1.out.2.1).gr hg, (HPv1.out.2.2.1).gr hg, trivial⟩; have rc2_0_0 := RowT.cell (HPv2.out.2.1) 0 _ rfl; have rc2_0_1 := RowT.cell (HPv2.out.2.1) 1 _ rfl; have rc2_1_0 := RowT.cell (HPv2.out.2.2.1) 0 _ rfl; have rc2_1_1 := RowT.cell (HPv2.out.2.2.1) 1 _ rfl; clear hg)
        | (go_at_call 8; refine (cC1 _).out.mono ?_; clear cC1; rintro r v3 ⟨rfl, hg⟩; have HPv3 : Hid ((Gr w v3) ∧ (RowT v3 w.heap.size #[.string a0, .int .u64 (a1 : Nat)] 24) ∧ (RowT v3 (w.heap.size + 1) #[.string b0, .int .u64 (b1 : Nat)] 24) ∧ (True)) := ⟨HPv2.out.1.trans hg, (HPv2.out.2.1).gr hg, (HPv2.out.2.2.1).gr hg, trivial⟩; have rc3_0_0 := RowT.cell (HPv3.out.2.1) 0 _ rfl; have rc3_0_1 := RowT.cell (HPv3.out.2.1) 1 _ rfl; have rc3_1_0 := RowT.cell (HPv3.out.2.2.1) 0 _ rfl; have rc3_1_1 := RowT.cell (HPv3.out.2.2.1) 1 _ rfl; clear hg)
        | (go_at_call 8; refine (cC2 _).out.mono ?_; clear cC2; rintro r v4 ⟨rfl, hg⟩; have HPv4 : Hid ((Gr w v4) ∧ (RowT v4 w.heap.size #[.string a0, .int .u64 (a1 : Nat)] 24) ∧ (RowT v4 (w.heap.size + 1) #[.string b0, .int .u64 (b1 : Nat)] 24) ∧ (True)) := ⟨HPv3.out.1.trans hg, (HPv3.out.2.1).gr hg, (HPv3.out.2.2.1).gr hg, trivial⟩; have rc4_0_0 := RowT.cell (HPv4.out.2.1) 0 _ rfl; have rc4_0_1 := RowT.cell (HPv4.out.2.1) 1 _ rfl; have rc4_1_0 := RowT.cell (HPv4.out.2.2.1) 0 _ rfl; have rc4_1_1 := RowT.cell (HPv4.out.2.2.1) 1 _ rfl; clear hg))
      go_ret
      exact ⟨rfl, HPv4.out.1⟩
    · have hq : (a0.toList == b0.toList) = false := by simpa using h
      clear h1 h2 h3 he h
      go_enter Try.func3, Try.ntmps3
      go_wp2_with (first
        | (go_at_call 6; refine (cA _).out.mono ?_; clear cA; rintro r v1 ⟨rfl, hg⟩; have HPv1 : Hid ((Gr w v1) ∧ (RowT v1 w.heap.size #[.string a0, .int .u64 (a1 : Nat)] 24) ∧ (RowT v1 (w.heap.size + 1) #[.string b0, .int .u64 (b1 : Nat)] 24) ∧ (True)) := ⟨((((Gr.refl w).alloc (.cells #[.string a0, .int .u64 (a1 : Nat)] 24)).alloc (.cells #[.string b0, .int .u64 (b1 : Nat)] 24)).trans hg), RowT.gr (rows2 w (.cells #[.string a0, .int .u64 (a1 : Nat)] 24) (.cells #[.string b0, .int .u64 (b1 : Nat)] 24)).1 hg, RowT.gr (rows2 w (.cells #[.string a0, .int .u64 (a1 : Nat)] 24) (.cells #[.string b0, .int .u64 (b1 : Nat)] 24)).2 hg, trivial⟩; have rc1_0_0 := RowT.cell (HPv1.out.2.1) 0 _ rfl; have rc1_0_1 := RowT.cell (HPv1.out.2.1) 1 _ rfl; have rc1_1_0 := RowT.cell (HPv1.out.2.2.1) 0 _ rfl; have rc1_1_1 := RowT.cell (HPv1.out.2.2.1) 1 _ rfl; clear hg)
        | (go_at_call 7; refine (cH _).out.mono ?_; clear cH; rintro r v2 ⟨rfl, hg⟩; have HPv2 : Hid ((Gr w v2) ∧ (RowT v2 w.heap.size #[.string a0, .int .u64 (a1 : Nat)] 24) ∧ (RowT v2 (w.heap.size + 1) #[.string b0, .int .u64 (b1 : Nat)] 24) ∧ (True)) := ⟨HPv1.out.1.trans hg, (HPv1.out.2.1).gr hg, (HPv1.out.2.2.1).gr hg, trivial⟩; have rc2_0_0 := RowT.cell (HPv2.out.2.1) 0 _ rfl; have rc2_0_1 := RowT.cell (HPv2.out.2.1) 1 _ rfl; have rc2_1_0 := RowT.cell (HPv2.out.2.2.1) 0 _ rfl; have rc2_1_1 := RowT.cell (HPv2.out.2.2.1) 1 _ rfl; clear hg)
        | (go_at_call 8; refine (cC1 _).out.mono ?_; clear cC1; rintro r v3 ⟨rfl, hg⟩; have HPv3 : Hid ((Gr w v3) ∧ (RowT v3 w.heap.size #[.string a0, .int .u64 (a1 : Nat)] 24) ∧ (RowT v3 (w.heap.size + 1) #[.string b0, .int .u64 (b1 : Nat)] 24) ∧ (True)) := ⟨HPv2.out.1.trans hg, (HPv2.out.2.1).gr hg, (HPv2.out.2.2.1).gr hg, trivial⟩; have rc3_0_0 := RowT.cell (HPv3.out.2.1) 0 _ rfl; have rc3_0_1 := RowT.cell (HPv3.out.2.1) 1 _ rfl; have rc3_1_0 := RowT.cell (HPv3.out.2.2.1) 0 _ rfl; have rc3_1_1 := RowT.cell (HPv3.out.2.2.1) 1 _ rfl; clear hg)
        | (go_at_call 8; refine (cC2 _).out.mono ?_; clear cC2; rintro r v4 ⟨rfl, hg⟩; have HPv4 : Hid ((Gr w v4) ∧ (RowT v4 w.heap.size #[.string a0, .int .u64 (a1 : Nat)] 24) ∧ (RowT v4 (w.heap.size + 1) #[.string b0, .int .u64 (b1 : Nat)] 24) ∧ (True)) := ⟨HPv3.out.1.trans hg, (HPv3.out.2.1).gr hg, (HPv3.out.2.2.1).gr hg, trivial⟩; have rc4_0_0 := RowT.cell (HPv4.out.2.1) 0 _ rfl; have rc4_0_1 := RowT.cell (HPv4.out.2.1) 1 _ rfl; have rc4_1_0 := RowT.cell (HPv4.out.2.2.1) 0 _ rfl; have rc4_1_1 := RowT.cell (HPv4.out.2.2.1) 1 _ rfl; clear hg))
      go_ret
      exact ⟨rfl, HPv4.out.1⟩
  · unfold kyAh at h1
    simp only at h1
    rw [h1] at cH
    rw [h2] at cC1
    rw [h3] at cC2
    subst he2
    have hq : (a0.toList == b0.toList) = true := by rw [he1]; simp
    clear h1 h2 h3 he1
    go_enter Try.func3, Try.ntmps3
    go_wp2_with (first
      | (go_at_call 6; refine (cA _).out.mono ?_; clear cA; rintro r v1 ⟨rfl, hg⟩; have HPv1 : Hid ((Gr w v1) ∧ (RowT v1 w.heap.size #[.string a0, .int .u64 (a1 : Nat)] 24) ∧ (RowT v1 (w.heap.size + 1) #[.string b0, .int .u64 (a1 : Nat)] 24) ∧ (True)) := ⟨((((Gr.refl w).alloc (.cells #[.string a0, .int .u64 (a1 : Nat)] 24)).alloc (.cells #[.string b0, .int .u64 (a1 : Nat)] 24)).trans hg), RowT.gr (rows2 w (.cells #[.string a0, .int .u64 (a1 : Nat)] 24) (.cells #[.string b0, .int .u64 (a1 : Nat)] 24)).1 hg, RowT.gr (rows2 w (.cells #[.string a0, .int .u64 (a1 : Nat)] 24) (.cells #[.string b0, .int .u64 (a1 : Nat)] 24)).2 hg, trivial⟩; have rc1_0_0 := RowT.cell (HPv1.out.2.1) 0 _ rfl; have rc1_0_1 := RowT.cell (HPv1.out.2.1) 1 _ rfl; have rc1_1_0 := RowT.cell (HPv1.out.2.2.1) 0 _ rfl; have rc1_1_1 := RowT.cell (HPv1.out.2.2.1) 1 _ rfl; clear hg)
      | (go_at_call 7; refine (cH _).out.mono ?_; clear cH; rintro r v2 ⟨rfl, hg⟩; have HPv2 : Hid ((Gr w v2) ∧ (RowT v2 w.heap.size #[.string a0, .int .u64 (a1 : Nat)] 24) ∧ (RowT v2 (w.heap.size + 1) #[.string b0, .int .u64 (a1 : Nat)] 24) ∧ (True)) := ⟨HPv1.out.1.trans hg, (HPv1.out.2.1).gr hg, (HPv1.out.2.2.1).gr hg, trivial⟩; have rc2_0_0 := RowT.cell (HPv2.out.2.1) 0 _ rfl; have rc2_0_1 := RowT.cell (HPv2.out.2.1) 1 _ rfl; have rc2_1_0 := RowT.cell (HPv2.out.2.2.1) 0 _ rfl; have rc2_1_1 := RowT.cell (HPv2.out.2.2.1) 1 _ rfl; clear hg)
      | (go_at_call 8; refine (cC1 _).out.mono ?_; clear cC1; rintro r v3 ⟨rfl, hg⟩; have HPv3 : Hid ((Gr w v3) ∧ (RowT v3 w.heap.size #[.string a0, .int .u64 (a1 : Nat)] 24) ∧ (RowT v3 (w.heap.size + 1) #[.string b0, .int .u64 (a1 : Nat)] 24) ∧ (True)) := ⟨HPv2.out.1.trans hg, (HPv2.out.2.1).gr hg, (HPv2.out.2.2.1).gr hg, trivial⟩; have rc3_0_0 := RowT.cell (HPv3.out.2.1) 0 _ rfl; have rc3_0_1 := RowT.cell (HPv3.out.2.1) 1 _ rfl; have rc3_1_0 := RowT.cell (HPv3.out.2.2.1) 0 _ rfl; have rc3_1_1 := RowT.cell (HPv3.out.2.2.1) 1 _ rfl; clear hg)
      | (go_at_call 8; refine (cC2 _).out.mono ?_; clear cC2; rintro r v4 ⟨rfl, hg⟩; have HPv4 : Hid ((Gr w v4) ∧ (RowT v4 w.heap.size #[.string a0, .int .u64 (a1 : Nat)] 24) ∧ (RowT v4 (w.heap.size + 1) #[.string b0, .int .u64 (a1 : Nat)] 24) ∧ (True)) := ⟨HPv3.out.1.trans hg, (HPv3.out.2.1).gr hg, (HPv3.out.2.2.1).gr hg, trivial⟩; have rc4_0_0 := RowT.cell (HPv4.out.2.1) 0 _ rfl; have rc4_0_1 := RowT.cell (HPv4.out.2.1) 1 _ rfl; have rc4_1_0 := RowT.cell (HPv4.out.2.2.1) 0 _ rfl; have rc4_1_1 := RowT.cell (HPv4.out.2.2.1) 1 _ rfl; clear hg))
    go_ret
    exact ⟨rfl, HPv4.out.1⟩
end Go.Proofs.Ytmclhhlekblkeaa
