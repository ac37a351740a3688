/- Layer 10: a leaf split in two (printed by ndspl_gen.py). -/
import Derived.Test.YtmpmfgkabjedpaaMgDo14
namespace Go.Proofs.Ytmpmfgkabjedpaa
open Go.RowKit
set_option linter.unusedVariables false
set_option linter.unusedSimpArgs false
set_option maxRecDepth 100000
set_option maxHeartbeats 4000000
theorem lf_spl_world {w V : World} {g : Nat} {A : Option Addr} {nn cap : Nat} (hg : Gr w V) (hw : w.heap.size = g) (h : V.heap[g]? = some (.cells #[.bool true, .slice A nn cap, .slice none 0 0] 27 (0, 0)) ∧ V.heap[g + 1]? = some (.cells #[.bool false, .slice none 0 0, .slice none 0 0] 27 (0, 0)) ∧ V.heap[g + 2]? = some (.cells #[.bool false, .slice none 0 0, .slice none 0 0] 27 (0, 0)) ∧ V.heap.size = g + 3) :
    SpW w ((V.alloc (.cells #[.bool true, .slice none 0 0, .slice none 0 0] 27)).alloc (.cells #[.bool true, .slice none 0 0, .slice none 0 0] 27)).drew g V.heap.size (V.heap.size + 1) #[.bool true, .slice A nn cap, .slice none 0 0] #[.bool false, .slice none 0 0, .slice none 0 0] #[.bool false, .slice none 0 0, .slice none 0 0] #[.bool true, .slice none 0 0, .slice none 0 0] #[.bool true, .slice none 0 0, .slice none 0 0] ∧ SpW w ((V.alloc (.cells #[.bool true, .slice none 0 0, .slice none 0 0] 27)).alloc (.cells #[.bool true, .slice none 0 0, .slice none 0 0] 27)).drew g (V.heap.size + 1) V.heap.size #[.bool true, .slice A nn cap, .slice none 0 0] #[.bool false, .slice none 0 0, .slice none 0 0] #[.bool false, .slice none 0 0, .slice none 0 0] #[.bool true, .slice none 0 0, .slice none 0 0] #[.bool true, .slice none 0 0, .slice none 0 0] := by
  obtain ⟨h0, h1, h2, h3⟩ := h
  have hG : Gr V ((V.alloc (.cells #[.bool true, .slice none 0 0, .slice none 0 0] 27)).alloc (.cells #[.bool true, .slice none 0 0, .slice none 0 0] 27)).drew := (((Gr.refl V).alloc _).alloc _).drew
  have e1 := heap_alloc_last (V.alloc (.cells #[.bool true, .slice none 0 0, .slice none 0 0] 27)) (.cells #[.bool true, .slice none 0 0, .slice none 0 0] 27)
  rw [alloc_size] at e1
  have e0 := (((Gr.refl (V.alloc (.cells #[.bool true, .slice none 0 0, .slice none 0 0] 27))).alloc (.cells #[.bool true, .slice none 0 0, .slice none 0 0] 27)).block (k := V.heap.size) (by rw [alloc_size]; omega)).trans (heap_alloc_last V (.cells #[.bool true, .slice none 0 0, .slice none 0 0] 27))
  exact ⟨⟨hg.trans hG, (hG.block (by omega)).trans h0, (hG.block (by omega)).trans h1, (hG.block (by omega)).trans h2, e0, e1, by omega, by omega, by omega, hw⟩, ⟨hg.trans hG, (hG.block (by omega)).trans h0, (hG.block (by omega)).trans h1, (hG.block (by omega)).trans h2, e1, e0, by omega, by omega, by omega, hw⟩⟩
theorem lf_split (v : Value) (xs : List Ce) (hl : xs.length ≤ 4000) (hx : ∀ x ∈ xs, ceOk x) (w : World) (h : LfAt w v xs) :
    Calls Try.prog 10 #[v] w fun r w' => ∃ va vb, r = .returned (.tuple #[va, .string (hdK (fun x : Ce => x.1) (spB lfSum xs)), vb]) ∧ LfAt w' va (spA lfSum xs) ∧ LfAt w' vb (spB lfSum xs) ∧ Gr w w' := by
  obtain ⟨A, cap, rfl, hs, hcap, hcm⟩ := h
  unfold maxLen at hcm
  by_cases h2 : xs.length < 2
  · have h2' : ((xs.length : Nat) : Int) < 2 := by omega
    have eA : spA lfSum xs = xs := by unfold spA; rw [if_pos h2]
    have eB : spB lfSum xs = [] := by unfold spB; rw [if_pos h2]
    have HS := Lib.hid (And.intro hs (And.intro hcap hcm))
    rw [eA, eB]
    clear eA eB
    clear hs hcap hcm h2
    go_enter Try.func10, Try.ntmps10
    go_wp2
    have h3 := heap_alloc3 w (.cells #[.bool true, .slice A xs.length cap, .slice none 0 0] 27) (.cells #[.bool false, .slice none 0 0, .slice none 0 0] 27) (.cells #[.bool false, .slice none 0 0, .slice none 0 0] 27)
    have HGV : Hid (Gr w (((w.alloc (.cells #[.bool true, .slice A xs.length cap, .slice none 0 0] 27)).alloc (.cells #[.bool false, .slice none 0 0, .slice none 0 0] 27)).alloc (.cells #[.bool false, .slice none 0 0, .slice none 0 0] 27))) := (((Gr.refl w).alloc _).alloc _).alloc _
    have hsz : (((w.alloc (.cells #[.bool true, .slice A xs.length cap, .slice none 0 0] 27)).alloc (.cells #[.bool false, .slice none 0 0, .slice none 0 0] 27)).alloc (.cells #[.bool false, .slice none 0 0, .slice none 0 0] 27)).heap.size = w.heap.size + 3 := by simp only [alloc_size]
    generalize (((w.alloc (.cells #[.bool true, .slice A xs.length cap, .slice none 0 0] 27)).alloc (.cells #[.bool false, .slice none 0 0, .slice none 0 0] 27)).alloc (.cells #[.bool false, .slice none 0 0, .slice none 0 0] 27)) = V at *
    generalize hgw : w.heap.size = g at *
    have HGW := Lib.hid hgw
    clear hgw
    obtain ⟨r0, r1, r2⟩ := h3
    have x0 := row_cell r0 0 _ rfl
    have HR := Lib.hid (And.intro r0 (And.intro r1 (And.intro r2 hsz)))
    clear r0 r1 r2 hsz
    have HW0 : Hid (Gr V V) := (Gr.refl V)
    have x0_0 := HW0.out.cells x0
    have HW1 : Hid (Gr V (V.alloc (.cells #[.bool false, .slice none 0 0, .slice none 0 0] 27))) := ((Gr.refl V).alloc _)
    have x0_1 := HW1.out.cells x0
    have HW2 : Hid (Gr V (V.alloc (.cells #[.bool true, .slice none 0 0, .slice none 0 0] 27))) := ((Gr.refl V).alloc _)
    have x0_2 := HW2.out.cells x0
    have HW3 : Hid (Gr V ((V.alloc (.cells #[.bool false, .slice none 0 0, .slice none 0 0] 27)).alloc (.cells #[.bool false, .slice none 0 0, .slice none 0 0] 27))) := (((Gr.refl V).alloc _).alloc _)
    have x0_3 := HW3.out.cells x0
    have HW4 : Hid (Gr V ((V.alloc (.cells #[.bool true, .slice none 0 0, .slice none 0 0] 27)).alloc (.cells #[.bool false, .slice none 0 0, .slice none 0 0] 27))) := (((Gr.refl V).alloc _).alloc _)
    have x0_4 := HW4.out.cells x0
    have HW5 : Hid (Gr V ((V.alloc (.cells #[.bool false, .slice none 0 0, .slice none 0 0] 27)).alloc (.cells #[.bool true, .slice none 0 0, .slice none 0 0] 27))) := (((Gr.refl V).alloc _).alloc _)
    have x0_5 := HW5.out.cells x0

    go_region
    · have HU : Hid (SpW w ((V.alloc (.cells #[.bool true, .slice none 0 0, .slice none 0 0] 27)).alloc (.cells #[.bool true, .slice none 0 0, .slice none 0 0] 27)).drew g (V.heap.size) (V.heap.size + 1) #[.bool true, .slice A xs.length cap, .slice none 0 0] #[.bool false, .slice none 0 0, .slice none 0 0] #[.bool false, .slice none 0 0, .slice none 0 0] #[.bool true, .slice none 0 0, .slice none 0 0] #[.bool true, .slice none 0 0, .slice none 0 0]) := (lf_spl_world HGV.out HGW.out HR.out).1
      have HU2 := HU
      clear HU
      clear x0_0 HW0 x0_1 HW1 x0_2 HW2 x0_3 HW3 x0_4 HW4 x0_5 HW5 x0 HR HGV
      generalize ((V.alloc (.cells #[.bool true, .slice none 0 0, .slice none 0 0] 27)).alloc (.cells #[.bool true, .slice none 0 0, .slice none 0 0] 27)).drew = U at *
      generalize V.heap.size + 1 = bb at *
      generalize V.heap.size = ba at *
      have n0 := row_cell HU2.out.n 0 _ rfl
      have n1 := row_cell HU2.out.n 1 _ rfl
      have n2 := row_cell HU2.out.n 2 _ rfl
      have p0 := row_cell HU2.out.r1 0 _ rfl
      have p1 := row_cell HU2.out.r1 1 _ rfl
      have p2 := row_cell HU2.out.r1 2 _ rfl
      have q0 := row_cell HU2.out.r2 0 _ rfl
      have q1 := row_cell HU2.out.r2 1 _ rfl
      have q2 := row_cell HU2.out.r2 2 _ rfl
      have m0 := row_cell HU2.out.b 0 _ rfl
      have m1 := row_cell HU2.out.b 1 _ rfl
      have m2 := row_cell HU2.out.b 2 _ rfl
      have fp0 := frozen_of_row _ _ 0 _ _ HU2.out.r1
      have fp1 := frozen_of_row _ _ 1 _ _ HU2.out.r1
      have fp2 := frozen_of_row _ _ 2 _ _ HU2.out.r1
      have fq0 := frozen_of_row _ _ 0 _ _ HU2.out.r2
      have fq1 := frozen_of_row _ _ 1 _ _ HU2.out.r2
      have fq2 := frozen_of_row _ _ 2 _ _ HU2.out.r2
      have ran := (set3_other U (g + 1) (g) (.bool true) (.slice A xs.length cap) (.slice none 0 0) (by have h1 := HU2.out.la; have h2 := HU2.out.lb; omega)).trans HU2.out.n
      have an0 := row_cell ran 0 _ rfl
      have an1 := row_cell ran 1 _ rfl
      have an2 := row_cell ran 2 _ rfl
      clear ran
      have ram := (set3_other U (g + 1) (bb) (.bool true) (.slice A xs.length cap) (.slice none 0 0) (by have h1 := HU2.out.la; have h2 := HU2.out.lb; omega)).trans HU2.out.b
      have am0 := row_cell ram 0 _ rfl
      have am1 := row_cell ram 1 _ rfl
      have am2 := row_cell ram 2 _ rfl
      clear ram
      have raq := (set3_other U (g + 1) (g + 1 + 1) (.bool true) (.slice A xs.length cap) (.slice none 0 0) (by have h1 := HU2.out.la; have h2 := HU2.out.lb; omega)).trans HU2.out.r2
      have aq0 := row_cell raq 0 _ rfl
      have faq0 := frozen_of_row _ _ 0 _ _ raq
      have aq1 := row_cell raq 1 _ rfl
      have faq1 := frozen_of_row _ _ 1 _ _ raq
      have aq2 := row_cell raq 2 _ rfl
      have faq2 := frozen_of_row _ _ 2 _ _ raq
      clear raq
      have rbn := (set3_other U (g + 1 + 1) (g) (.bool true) (.slice none 0 0) (.slice none 0 0) (by have h1 := HU2.out.la; have h2 := HU2.out.lb; omega)).trans HU2.out.n
      have bn0 := row_cell rbn 0 _ rfl
      have bn1 := row_cell rbn 1 _ rfl
      have bn2 := row_cell rbn 2 _ rfl
      clear rbn
      have rbm := (set3_other U (g + 1 + 1) (bb) (.bool true) (.slice none 0 0) (.slice none 0 0) (by have h1 := HU2.out.la; have h2 := HU2.out.lb; omega)).trans HU2.out.b
      have bm0 := row_cell rbm 0 _ rfl
      have bm1 := row_cell rbm 1 _ rfl
      have bm2 := row_cell rbm 2 _ rfl
      clear rbm
      have rbp := (set3_other U (g + 1 + 1) (g + 1) (.bool true) (.slice none 0 0) (.slice none 0 0) (by have h1 := HU2.out.la; have h2 := HU2.out.lb; omega)).trans HU2.out.r1
      have bp0 := row_cell rbp 0 _ rfl
      have fbp0 := frozen_of_row _ _ 0 _ _ rbp
      have bp1 := row_cell rbp 1 _ rfl
      have fbp1 := frozen_of_row _ _ 1 _ _ rbp
      have bp2 := row_cell rbp 2 _ rfl
      have fbp2 := frozen_of_row _ _ 2 _ _ rbp
      clear rbp
      go_wp2
      clear HGW
      go_region
      go_wp2
      have HE := Lib.hid (HU2.out.end1 (.bool true) (.slice A xs.length cap) (.slice none 0 0) (.bool true) (.slice none 0 0) (.slice none 0 0))
      refine bodyPost_ret (results_c_t_c rfl _ _ (g + 1) (g + 1 + 1) _ _ #[.bool true, .slice A xs.length cap, .slice none 0 0] #[.bool true, .slice none 0 0, .slice none 0 0] (0, 0) (0, 0) (.struct _) (.struct _) rfl HE.out.2.1 Try.underlying27 rfl (by kernel_rfl) rfl HE.out.2.2 Try.underlying27 rfl (by kernel_rfl)) rfl ⟨_, _, rfl, ⟨A, cap, rfl, HS.out.1.gr HE.out.1, HS.out.2.1, HS.out.2.2⟩, ⟨none, 0, rfl, .inl rfl, Nat.le_refl _, Nat.zero_le _⟩, HE.out.1⟩
    · have HU : Hid (SpW w ((V.alloc (.cells #[.bool true, .slice none 0 0, .slice none 0 0] 27)).alloc (.cells #[.bool true, .slice none 0 0, .slice none 0 0] 27)).drew g (V.heap.size + 1) (V.heap.size) #[.bool true, .slice A xs.length cap, .slice none 0 0] #[.bool false, .slice none 0 0, .slice none 0 0] #[.bool false, .slice none 0 0, .slice none 0 0] #[.bool true, .slice none 0 0, .slice none 0 0] #[.bool true, .slice none 0 0, .slice none 0 0]) := (lf_spl_world HGV.out HGW.out HR.out).2
      have HU2 := HU
      clear HU
      clear x0_0 HW0 x0_1 HW1 x0_2 HW2 x0_3 HW3 x0_4 HW4 x0_5 HW5 x0 HR HGV
      generalize ((V.alloc (.cells #[.bool true, .slice none 0 0, .slice none 0 0] 27)).alloc (.cells #[.bool true, .slice none 0 0, .slice none 0 0] 27)).drew = U at *
      generalize V.heap.size + 1 = ba at *
      generalize V.heap.size = bb at *
      have n0 := row_cell HU2.out.n 0 _ rfl
      have n1 := row_cell HU2.out.n 1 _ rfl
      have n2 := row_cell HU2.out.n 2 _ rfl
      have p0 := row_cell HU2.out.r1 0 _ rfl
      have p1 := row_cell HU2.out.r1 1 _ rfl
      have p2 := row_cell HU2.out.r1 2 _ rfl
      have q0 := row_cell HU2.out.r2 0 _ rfl
      have q1 := row_cell HU2.out.r2 1 _ rfl
      have q2 := row_cell HU2.out.r2 2 _ rfl
      have m0 := row_cell HU2.out.b 0 _ rfl
      have m1 := row_cell HU2.out.b 1 _ rfl
      have m2 := row_cell HU2.out.b 2 _ rfl
      have fp0 := frozen_of_row _ _ 0 _ _ HU2.out.r1
      have fp1 := frozen_of_row _ _ 1 _ _ HU2.out.r1
      have fp2 := frozen_of_row _ _ 2 _ _ HU2.out.r1
      have fq0 := frozen_of_row _ _ 0 _ _ HU2.out.r2
      have fq1 := frozen_of_row _ _ 1 _ _ HU2.out.r2
      have fq2 := frozen_of_row _ _ 2 _ _ HU2.out.r2
      have ran := (set3_other U (g + 1) (g) (.bool true) (.slice A xs.length cap) (.slice none 0 0) (by have h1 := HU2.out.la; have h2 := HU2.out.lb; omega)).trans HU2.out.n
      have an0 := row_cell ran 0 _ rfl
      have an1 := row_cell ran 1 _ rfl
      have an2 := row_cell ran 2 _ rfl
      clear ran
      have ram := (set3_other U (g + 1) (bb) (.bool true) (.slice A xs.length cap) (.slice none 0 0) (by have h1 := HU2.out.la; have h2 := HU2.out.lb; omega)).trans HU2.out.b
      have am0 := row_cell ram 0 _ rfl
      have am1 := row_cell ram 1 _ rfl
      have am2 := row_cell ram 2 _ rfl
      clear ram
      have raq := (set3_other U (g + 1) (g + 1 + 1) (.bool true) (.slice A xs.length cap) (.slice none 0 0) (by have h1 := HU2.out.la; have h2 := HU2.out.lb; omega)).trans HU2.out.r2
      have aq0 := row_cell raq 0 _ rfl
      have faq0 := frozen_of_row _ _ 0 _ _ raq
      have aq1 := row_cell raq 1 _ rfl
      have faq1 := frozen_of_row _ _ 1 _ _ raq
      have aq2 := row_cell raq 2 _ rfl
      have faq2 := frozen_of_row _ _ 2 _ _ raq
      clear raq
      have rbn := (set3_other U (g + 1 + 1) (g) (.bool true) (.slice none 0 0) (.slice none 0 0) (by have h1 := HU2.out.la; have h2 := HU2.out.lb; omega)).trans HU2.out.n
      have bn0 := row_cell rbn 0 _ rfl
      have bn1 := row_cell rbn 1 _ rfl
      have bn2 := row_cell rbn 2 _ rfl
      clear rbn
      have rbm := (set3_other U (g + 1 + 1) (bb) (.bool true) (.slice none 0 0) (.slice none 0 0) (by have h1 := HU2.out.la; have h2 := HU2.out.lb; omega)).trans HU2.out.b
      have bm0 := row_cell rbm 0 _ rfl
      have bm1 := row_cell rbm 1 _ rfl
      have bm2 := row_cell rbm 2 _ rfl
      clear rbm
      have rbp := (set3_other U (g + 1 + 1) (g + 1) (.bool true) (.slice none 0 0) (.slice none 0 0) (by have h1 := HU2.out.la; have h2 := HU2.out.lb; omega)).trans HU2.out.r1
      have bp0 := row_cell rbp 0 _ rfl
      have fbp0 := frozen_of_row _ _ 0 _ _ rbp
      have bp1 := row_cell rbp 1 _ rfl
      have fbp1 := frozen_of_row _ _ 1 _ _ rbp
      have bp2 := row_cell rbp 2 _ rfl
      have fbp2 := frozen_of_row _ _ 2 _ _ rbp
      clear rbp
      go_wp2
      clear HGW
      go_region
      go_wp2
      have HE := Lib.hid (HU2.out.end1 (.bool true) (.slice A xs.length cap) (.slice none 0 0) (.bool true) (.slice none 0 0) (.slice none 0 0))
      refine bodyPost_ret (results_c_t_c rfl _ _ (g + 1) (g + 1 + 1) _ _ #[.bool true, .slice A xs.length cap, .slice none 0 0] #[.bool true, .slice none 0 0, .slice none 0 0] (0, 0) (0, 0) (.struct _) (.struct _) rfl HE.out.2.1 Try.underlying27 rfl (by kernel_rfl) rfl HE.out.2.2 Try.underlying27 rfl (by kernel_rfl)) rfl ⟨_, _, rfl, ⟨A, cap, rfl, HS.out.1.gr HE.out.1, HS.out.2.1, HS.out.2.2⟩, ⟨none, 0, rfl, .inl rfl, Nat.le_refl _, Nat.zero_le _⟩, HE.out.1⟩
  · have h2' : ¬ ((xs.length : Nat) : Int) < 2 := by omega
    have hi := hfAt_le lfSum xs (by omega)
    have cH := fun w1 (hg : Gr w w1) => Lib.hid (lf_half A cap xs hcap hcm hl hx w1 (hs.gr hg))
    have eA : spA lfSum xs = xs.take (hfAt lfSum xs) := by unfold spA; rw [if_neg h2]
    have eB : spB lfSum xs = xs.drop (hfAt lfSum xs) := by unfold spB; rw [if_neg h2]
    rw [eA, eB]
    clear eA eB
    rcases hs with h0 | ⟨a, off, rfl, hcell⟩
    · rw [h0] at h2; simp at h2
    generalize hfAt lfSum xs = i at *
    have l1 : (xs.take i).length = i := by rw [List.length_take]; omega
    have l2 : (xs.drop i).length = xs.length - i := List.length_drop
    have cC1 : ∀ w1, Gr w w1 → Hid (Calls Try.prog 38 #[.slice (some ⟨a, off, none⟩) i cap] w1 fun r w' => ∃ A' cap', r = .returned (.slice A' (xs.take i).length cap') ∧ Own w' w1.heap.size 59 4 ceCell A' cap' (xs.take i) ∧ Gr w1 w') :=
      fun w1 hg => lf_clone (some ⟨a, off, none⟩) i cap (xs.take i) l1.symm (by omega) (by unfold maxLen; omega) (by omega) w1 ((SliceAt.take (.inr ⟨a, off, rfl, hcell⟩) i).gr hg)
    have cC2 : ∀ w1, Gr w w1 → Hid (Calls Try.prog 38 #[.slice (some ⟨a, off + i * 4, none⟩) (xs.length - i) (cap - i)] w1 fun r w' => ∃ A' cap', r = .returned (.slice A' (xs.drop i).length cap') ∧ Own w' w1.heap.size 59 4 ceCell A' cap' (xs.drop i) ∧ Gr w1 w') :=
      fun w1 hg => lf_clone (some ⟨a, off + i * 4, none⟩) (xs.length - i) (cap - i) (xs.drop i) l2.symm (by omega) (by unfold maxLen; omega) (by omega) w1 ((SliceAt.dropAt hcell i).gr hg)
    obtain ⟨ya, hya⟩ : ∃ ya, ya = xs.take i := ⟨_, rfl⟩
    obtain ⟨yb, hyb⟩ : ∃ yb, yb = xs.drop i := ⟨_, rfl⟩
    rw [← hya, ← hyb]
    rw [← hya] at cC1 l1
    rw [← hyb] at cC2 l2
    have HYL := Lib.hid (And.intro l1 (And.intro l2 hi))
    have hyb0 : 0 < yb.length := by omega
    clear hya hyb hcell l1 l2 h2
    have hi0 : (0 : Int) ≤ (i : Int) := by omega
    have hi1 : (i : Int) ≤ ((xs.length : Nat) : Int) := by omega
    have hi2 : (i : Int) ≤ ((cap : Nat) : Int) := by omega
    have hi3 : (i : Int).toNat = i := by omega
    have hi4 : ¬ cap = i := by omega
    go_enter Try.func10, Try.ntmps10
    go_wp2
    have h3 := heap_alloc3 w (.cells #[.bool true, .slice (some ⟨a, off, none⟩) xs.length cap, .slice none 0 0] 27) (.cells #[.bool false, .slice none 0 0, .slice none 0 0] 27) (.cells #[.bool false, .slice none 0 0, .slice none 0 0] 27)
    have HGV : Hid (Gr w (((w.alloc (.cells #[.bool true, .slice (some ⟨a, off, none⟩) xs.length cap, .slice none 0 0] 27)).alloc (.cells #[.bool false, .slice none 0 0, .slice none 0 0] 27)).alloc (.cells #[.bool false, .slice none 0 0, .slice none 0 0] 27))) := (((Gr.refl w).alloc _).alloc _).alloc _
    have hsz : (((w.alloc (.cells #[.bool true, .slice (some ⟨a, off, none⟩) xs.length cap, .slice none 0 0] 27)).alloc (.cells #[.bool false, .slice none 0 0, .slice none 0 0] 27)).alloc (.cells #[.bool false, .slice none 0 0, .slice none 0 0] 27)).heap.size = w.heap.size + 3 := by simp only [alloc_size]
    generalize (((w.alloc (.cells #[.bool true, .slice (some ⟨a, off, none⟩) xs.length cap, .slice none 0 0] 27)).alloc (.cells #[.bool false, .slice none 0 0, .slice none 0 0] 27)).alloc (.cells #[.bool false, .slice none 0 0, .slice none 0 0] 27)) = V at *
    generalize hgw : w.heap.size = g at *
    have HGW := Lib.hid hgw
    clear hgw
    obtain ⟨r0, r1, r2⟩ := h3
    have x0 := row_cell r0 0 _ rfl
    have HR := Lib.hid (And.intro r0 (And.intro r1 (And.intro r2 hsz)))
    clear r0 r1 r2 hsz
    have HW0 : Hid (Gr V V) := (Gr.refl V)
    have x0_0 := HW0.out.cells x0
    have HW1 : Hid (Gr V (V.alloc (.cells #[.bool false, .slice none 0 0, .slice none 0 0] 27))) := ((Gr.refl V).alloc _)
    have x0_1 := HW1.out.cells x0
    have HW2 : Hid (Gr V (V.alloc (.cells #[.bool true, .slice none 0 0, .slice none 0 0] 27))) := ((Gr.refl V).alloc _)
    have x0_2 := HW2.out.cells x0
    have HW3 : Hid (Gr V ((V.alloc (.cells #[.bool false, .slice none 0 0, .slice none 0 0] 27)).alloc (.cells #[.bool false, .slice none 0 0, .slice none 0 0] 27))) := (((Gr.refl V).alloc _).alloc _)
    have x0_3 := HW3.out.cells x0
    have HW4 : Hid (Gr V ((V.alloc (.cells #[.bool true, .slice none 0 0, .slice none 0 0] 27)).alloc (.cells #[.bool false, .slice none 0 0, .slice none 0 0] 27))) := (((Gr.refl V).alloc _).alloc _)
    have x0_4 := HW4.out.cells x0
    have HW5 : Hid (Gr V ((V.alloc (.cells #[.bool false, .slice none 0 0, .slice none 0 0] 27)).alloc (.cells #[.bool true, .slice none 0 0, .slice none 0 0] 27))) := (((Gr.refl V).alloc _).alloc _)
    have x0_5 := HW5.out.cells x0

    go_region
    · have HU : Hid (SpW w ((V.alloc (.cells #[.bool true, .slice none 0 0, .slice none 0 0] 27)).alloc (.cells #[.bool true, .slice none 0 0, .slice none 0 0] 27)).drew g (V.heap.size) (V.heap.size + 1) #[.bool true, .slice (some ⟨a, off, none⟩) xs.length cap, .slice none 0 0] #[.bool false, .slice none 0 0, .slice none 0 0] #[.bool false, .slice none 0 0, .slice none 0 0] #[.bool true, .slice none 0 0, .slice none 0 0] #[.bool true, .slice none 0 0, .slice none 0 0]) := (lf_spl_world HGV.out HGW.out HR.out).1
      have HU2 := HU
      clear HU
      clear x0_0 HW0 x0_1 HW1 x0_2 HW2 x0_3 HW3 x0_4 HW4 x0_5 HW5 x0 HR HGV
      generalize ((V.alloc (.cells #[.bool true, .slice none 0 0, .slice none 0 0] 27)).alloc (.cells #[.bool true, .slice none 0 0, .slice none 0 0] 27)).drew = U at *
      generalize V.heap.size + 1 = bb at *
      generalize V.heap.size = ba at *
      have n0 := row_cell HU2.out.n 0 _ rfl
      have n1 := row_cell HU2.out.n 1 _ rfl
      have n2 := row_cell HU2.out.n 2 _ rfl
      go_wp2
      have HQ := Lib.hid n1
      have HU2d := Lib.hid (HU2.out.step (Gr.refl U).drew)
      go_region_held3 (fun w' => w'.cell? ⟨g, 1, none⟩ = some (.slice (some ⟨a, off, none⟩) xs.length cap)) (first | exact HQ.out | assumption)
        (first
          | (go_at_call 37; refine (sl_leaves _).mono ?_; rintro r v1 ⟨rfl, hg⟩; have HU3 := Lib.hid (HU2d.out.step hg); have HQ := Lib.hid (row_cell HU3.out.n 1 _ rfl); clear hg)
          | (go_at_call 36; refine (cH _ HU3.out.gr).out.mono ?_; clear cH; rintro r v2 ⟨rfl, hg⟩; have HU4 := Lib.hid (HU3.out.step hg); have HQ := Lib.hid (row_cell HU4.out.n 1 _ rfl); clear hg))
      clear HQ HU2d n0 n1 n2
      have t_0 := row_cell HU4.out.n 0 _ rfl; have t_1 := row_cell HU4.out.n 1 _ rfl; have t_2 := row_cell HU4.out.n 2 _ rfl
      have ne1 := HU4.out.ne
      have ne2 := HU4.out.ne.symm
      have hga : g ≠ ba := by have := HU4.out.la; omega
      have hgb : g ≠ bb := by have := HU4.out.lb; omega
      go_wp2
      have HQ := Lib.hid t_1
      have HU4d := Lib.hid (HU4.out.step (Gr.refl v2).drew)
      have HBA : Hid (ba < (v2.drew).heap.size ∧ bb < (v2.drew).heap.size) := ⟨lt_of_row HU4d.out.a, lt_of_row HU4d.out.b⟩
      go_region_held3 (fun w' => w'.cell? ⟨g, 1, none⟩ = some (.slice (some ⟨a, off, none⟩) xs.length cap)) (first | exact HQ.out | (with_reducible exact ((Ch.refl ba _).setCell 1 _).cell hga HQ.out) | (with_reducible exact ((Ch.refl bb _).setCell 1 _).cell hgb HQ.out) | (with_reducible exact ((Ch.refl bb _).setCell 1 _).cell hgb (((Ch.refl ba _).setCell 1 _).cell hga HQ.out)) | (with_reducible exact ((Ch.refl ba _).setCell 1 _).cell hga (((Ch.refl bb _).setCell 1 _).cell hgb HQ.out)) | assumption)
        (first
          | (go_at_call_of 38 (Value.slice (some ⟨a, off, none⟩) i cap); refine (cC1 _ HU4d.out.gr).out.mono ?_; clear cC1; rintro r v3 ⟨A3, c3, rfl, hown, hg⟩; have HU5 := Lib.hid (HU4d.out.step hg); have HO3 := Lib.hid hown; have HQ : Hid (v3.cell? ⟨g, 1, none⟩ = some (.slice (some ⟨a, off, none⟩) xs.length cap)) := row_cell HU5.out.n 1 _ rfl; clear hg hown)
          | (go_at_call 38; refine (cC2 _ HU5.out.gr).out.mono ?_; clear cC2; rintro r v4 ⟨A4, c4, rfl, hown, hg⟩; have HU6 := Lib.hid (HU5.out.step hg); have HO4 := Lib.hid (And.intro (HO3.out.gr hg) hown); have ho3 : ∀ x, ownOf A3 = some x → x < v3.heap.size := fun x hx => (HO3.out.lt hx).1; have HBB : Hid (ba < v3.heap.size ∧ bb < v3.heap.size) := ⟨lt_of_row HU5.out.a, lt_of_row HU5.out.b⟩; have HQ : Hid (v4.cell? ⟨g, 1, none⟩ = some (.slice (some ⟨a, off, none⟩) xs.length cap)) := row_cell HU6.out.n 1 _ rfl; have ca := row_cell HU6.out.a 1 _ rfl; have fa := frozen_of_row _ _ 1 _ _ HU6.out.a; have cb := row_cell HU6.out.b 1 _ rfl; have fb := frozen_of_row _ _ 1 _ _ HU6.out.b; clear hg hown))
      have HF : Hid (SpW w ((v4.setCell ⟨ba, 1, none⟩ (.slice A3 ya.length c3)).setCell ⟨bb, 1, none⟩ (.slice A4 yb.length c4)) g ba bb #[.bool true, .slice (some ⟨a, off, none⟩) xs.length cap, .slice none 0 0] #[.bool false, .slice none 0 0, .slice none 0 0] #[.bool false, .slice none 0 0, .slice none 0 0] #[.bool true, .slice A3 ya.length c3, .slice none 0 0] #[.bool true, .slice A4 yb.length c4, .slice none 0 0] ∧ Own ((v4.setCell ⟨ba, 1, none⟩ (.slice A3 ya.length c3)).setCell ⟨bb, 1, none⟩ (.slice A4 yb.length c4)) (v2.drew).heap.size 59 4 ceCell A3 c3 ya ∧ Own ((v4.setCell ⟨ba, 1, none⟩ (.slice A3 ya.length c3)).setCell ⟨bb, 1, none⟩ (.slice A4 yb.length c4)) v3.heap.size 59 4 ceCell A4 c4 yb) := ⟨HU6.out.put2 1 _ _, own_put2 HO4.out.1 HBA.out.1 HBA.out.2 _ _ _, own_put2 HO4.out.2 HBB.out.1 HBB.out.2 _ _ _⟩
      clear HU2 HU3 HU4 HU4d HU5 HU6 HO3 HO4 HQ t_0 t_1 t_2 ca fa cb fb
      generalize (v4.setCell ⟨ba, 1, none⟩ (.slice A3 ya.length c3)).setCell ⟨bb, 1, none⟩ (.slice A4 yb.length c4) = U at *
      cases yb with
      | nil => simp at hyb0
      | cons y0 yt =>
        obtain ⟨q, rfl, hq1, hq2, hqc⟩ := HF.out.2.2.head ceCell_len
        have hqb : g + 2 < q := by have := HF.out.1.la; have := HBB.out.1; omega
        have hqb2 : bb < q := by have := HBB.out.2; omega
        have k0 : U.cell? ⟨q, 0, none⟩ = some (.string y0.1) := hqc 0 _ rfl
        have HQB := Lib.hid (And.intro hqb hqb2)
        have HQC := Lib.hid hqc
        have HBX := Lib.hid hq1
        clear hq1 hq2 hqc hyb0
        have n0 := row_cell HF.out.1.b 0 _ rfl
        have n1 := row_cell HF.out.1.b 1 _ rfl
        have n2 := row_cell HF.out.1.b 2 _ rfl
        have m0 := row_cell HF.out.1.a 0 _ rfl
        have m1 := row_cell HF.out.1.a 1 _ rfl
        have m2 := row_cell HF.out.1.a 2 _ rfl
        have p0 := row_cell HF.out.1.r1 0 _ rfl
        have p1 := row_cell HF.out.1.r1 1 _ rfl
        have p2 := row_cell HF.out.1.r1 2 _ rfl
        have q0 := row_cell HF.out.1.r2 0 _ rfl
        have q1 := row_cell HF.out.1.r2 1 _ rfl
        have q2 := row_cell HF.out.1.r2 2 _ rfl
        have fp0 := frozen_of_row _ _ 0 _ _ HF.out.1.r1
        have fp1 := frozen_of_row _ _ 1 _ _ HF.out.1.r1
        have fp2 := frozen_of_row _ _ 2 _ _ HF.out.1.r1
        have fq0 := frozen_of_row _ _ 0 _ _ HF.out.1.r2
        have fq1 := frozen_of_row _ _ 1 _ _ HF.out.1.r2
        have fq2 := frozen_of_row _ _ 2 _ _ HF.out.1.r2
        have hla := HF.out.1.la
        have hlb := HF.out.1.lb
        have hqx := HQB.out.1
        have HCA := Lib.hid ((((Ch.refl (g + 1) U).setCell 0 (.bool true)).setCell 1 (.slice A3 ya.length c3)).setCell 2 (.slice none 0 0))
        have HCB := Lib.hid ((((Ch.refl (g + 1 + 1) U).setCell 0 (.bool true)).setCell 1 (.slice (some ⟨q, 0, none⟩) (y0 :: yt).length c4)).setCell 2 (.slice none 0 0))
        have HCAB := Lib.hid ((((Ch.refl (g + 1 + 1) (((U.setCell ⟨g + 1, 0, none⟩ (.bool true)).setCell ⟨g + 1, 1, none⟩ (.slice A3 ya.length c3)).setCell ⟨g + 1, 2, none⟩ (.slice none 0 0))).setCell 0 (.bool true)).setCell 1 (.slice (some ⟨q, 0, none⟩) (y0 :: yt).length c4)).setCell 2 (.slice none 0 0))
        have HCBA := Lib.hid ((((Ch.refl (g + 1) (((U.setCell ⟨g + 1 + 1, 0, none⟩ (.bool true)).setCell ⟨g + 1 + 1, 1, none⟩ (.slice (some ⟨q, 0, none⟩) (y0 :: yt).length c4)).setCell ⟨g + 1 + 1, 2, none⟩ (.slice none 0 0))).setCell 0 (.bool true)).setCell 1 (.slice A3 ya.length c3)).setCell 2 (.slice none 0 0))
        have m0b : (((U.setCell ⟨g + 1 + 1, 0, none⟩ (.bool true)).setCell ⟨g + 1 + 1, 1, none⟩ (.slice (some ⟨q, 0, none⟩) (y0 :: yt).length c4)).setCell ⟨g + 1 + 1, 2, none⟩ (.slice none 0 0)).cell? ⟨ba, 0, none⟩ = some (.bool true) := HCB.out.cell (by show ba ≠ g + 1 + 1; omega) m0
        have m1b : (((U.setCell ⟨g + 1 + 1, 0, none⟩ (.bool true)).setCell ⟨g + 1 + 1, 1, none⟩ (.slice (some ⟨q, 0, none⟩) (y0 :: yt).length c4)).setCell ⟨g + 1 + 1, 2, none⟩ (.slice none 0 0)).cell? ⟨ba, 1, none⟩ = some (.slice A3 ya.length c3) := HCB.out.cell (by show ba ≠ g + 1 + 1; omega) m1
        have m2b : (((U.setCell ⟨g + 1 + 1, 0, none⟩ (.bool true)).setCell ⟨g + 1 + 1, 1, none⟩ (.slice (some ⟨q, 0, none⟩) (y0 :: yt).length c4)).setCell ⟨g + 1 + 1, 2, none⟩ (.slice none 0 0)).cell? ⟨ba, 2, none⟩ = some (.slice none 0 0) := HCB.out.cell (by show ba ≠ g + 1 + 1; omega) m2
        have n0a : (((U.setCell ⟨g + 1, 0, none⟩ (.bool true)).setCell ⟨g + 1, 1, none⟩ (.slice A3 ya.length c3)).setCell ⟨g + 1, 2, none⟩ (.slice none 0 0)).cell? ⟨bb, 0, none⟩ = some (.bool true) := HCA.out.cell (by show bb ≠ g + 1; omega) n0
        have n0ab : ((((((U.setCell ⟨g + 1, 0, none⟩ (.bool true)).setCell ⟨g + 1, 1, none⟩ (.slice A3 ya.length c3)).setCell ⟨g + 1, 2, none⟩ (.slice none 0 0)).setCell ⟨g + 1 + 1, 0, none⟩ (.bool true)).setCell ⟨g + 1 + 1, 1, none⟩ (.slice (some ⟨q, 0, none⟩) (y0 :: yt).length c4)).setCell ⟨g + 1 + 1, 2, none⟩ (.slice none 0 0)).cell? ⟨bb, 0, none⟩ = some (.bool true) := HCAB.out.cell (by show bb ≠ g + 1 + 1; omega) n0a
        have n0b : (((U.setCell ⟨g + 1 + 1, 0, none⟩ (.bool true)).setCell ⟨g + 1 + 1, 1, none⟩ (.slice (some ⟨q, 0, none⟩) (y0 :: yt).length c4)).setCell ⟨g + 1 + 1, 2, none⟩ (.slice none 0 0)).cell? ⟨bb, 0, none⟩ = some (.bool true) := HCB.out.cell (by show bb ≠ g + 1 + 1; omega) n0
        have n0ba : ((((((U.setCell ⟨g + 1 + 1, 0, none⟩ (.bool true)).setCell ⟨g + 1 + 1, 1, none⟩ (.slice (some ⟨q, 0, none⟩) (y0 :: yt).length c4)).setCell ⟨g + 1 + 1, 2, none⟩ (.slice none 0 0)).setCell ⟨g + 1, 0, none⟩ (.bool true)).setCell ⟨g + 1, 1, none⟩ (.slice A3 ya.length c3)).setCell ⟨g + 1, 2, none⟩ (.slice none 0 0)).cell? ⟨bb, 0, none⟩ = some (.bool true) := HCBA.out.cell (by show bb ≠ g + 1; omega) n0b
        have n1a : (((U.setCell ⟨g + 1, 0, none⟩ (.bool true)).setCell ⟨g + 1, 1, none⟩ (.slice A3 ya.length c3)).setCell ⟨g + 1, 2, none⟩ (.slice none 0 0)).cell? ⟨bb, 1, none⟩ = some (.slice (some ⟨q, 0, none⟩) (y0 :: yt).length c4) := HCA.out.cell (by show bb ≠ g + 1; omega) n1
        have n1ab : ((((((U.setCell ⟨g + 1, 0, none⟩ (.bool true)).setCell ⟨g + 1, 1, none⟩ (.slice A3 ya.length c3)).setCell ⟨g + 1, 2, none⟩ (.slice none 0 0)).setCell ⟨g + 1 + 1, 0, none⟩ (.bool true)).setCell ⟨g + 1 + 1, 1, none⟩ (.slice (some ⟨q, 0, none⟩) (y0 :: yt).length c4)).setCell ⟨g + 1 + 1, 2, none⟩ (.slice none 0 0)).cell? ⟨bb, 1, none⟩ = some (.slice (some ⟨q, 0, none⟩) (y0 :: yt).length c4) := HCAB.out.cell (by show bb ≠ g + 1 + 1; omega) n1a
        have n1b : (((U.setCell ⟨g + 1 + 1, 0, none⟩ (.bool true)).setCell ⟨g + 1 + 1, 1, none⟩ (.slice (some ⟨q, 0, none⟩) (y0 :: yt).length c4)).setCell ⟨g + 1 + 1, 2, none⟩ (.slice none 0 0)).cell? ⟨bb, 1, none⟩ = some (.slice (some ⟨q, 0, none⟩) (y0 :: yt).length c4) := HCB.out.cell (by show bb ≠ g + 1 + 1; omega) n1
        have n1ba : ((((((U.setCell ⟨g + 1 + 1, 0, none⟩ (.bool true)).setCell ⟨g + 1 + 1, 1, none⟩ (.slice (some ⟨q, 0, none⟩) (y0 :: yt).length c4)).setCell ⟨g + 1 + 1, 2, none⟩ (.slice none 0 0)).setCell ⟨g + 1, 0, none⟩ (.bool true)).setCell ⟨g + 1, 1, none⟩ (.slice A3 ya.length c3)).setCell ⟨g + 1, 2, none⟩ (.slice none 0 0)).cell? ⟨bb, 1, none⟩ = some (.slice (some ⟨q, 0, none⟩) (y0 :: yt).length c4) := HCBA.out.cell (by show bb ≠ g + 1; omega) n1b
        have n2a : (((U.setCell ⟨g + 1, 0, none⟩ (.bool true)).setCell ⟨g + 1, 1, none⟩ (.slice A3 ya.length c3)).setCell ⟨g + 1, 2, none⟩ (.slice none 0 0)).cell? ⟨bb, 2, none⟩ = some (.slice none 0 0) := HCA.out.cell (by show bb ≠ g + 1; omega) n2
        have n2ab : ((((((U.setCell ⟨g + 1, 0, none⟩ (.bool true)).setCell ⟨g + 1, 1, none⟩ (.slice A3 ya.length c3)).setCell ⟨g + 1, 2, none⟩ (.slice none 0 0)).setCell ⟨g + 1 + 1, 0, none⟩ (.bool true)).setCell ⟨g + 1 + 1, 1, none⟩ (.slice (some ⟨q, 0, none⟩) (y0 :: yt).length c4)).setCell ⟨g + 1 + 1, 2, none⟩ (.slice none 0 0)).cell? ⟨bb, 2, none⟩ = some (.slice none 0 0) := HCAB.out.cell (by show bb ≠ g + 1 + 1; omega) n2a
        have n2b : (((U.setCell ⟨g + 1 + 1, 0, none⟩ (.bool true)).setCell ⟨g + 1 + 1, 1, none⟩ (.slice (some ⟨q, 0, none⟩) (y0 :: yt).length c4)).setCell ⟨g + 1 + 1, 2, none⟩ (.slice none 0 0)).cell? ⟨bb, 2, none⟩ = some (.slice none 0 0) := HCB.out.cell (by show bb ≠ g + 1 + 1; omega) n2
        have n2ba : ((((((U.setCell ⟨g + 1 + 1, 0, none⟩ (.bool true)).setCell ⟨g + 1 + 1, 1, none⟩ (.slice (some ⟨q, 0, none⟩) (y0 :: yt).length c4)).setCell ⟨g + 1 + 1, 2, none⟩ (.slice none 0 0)).setCell ⟨g + 1, 0, none⟩ (.bool true)).setCell ⟨g + 1, 1, none⟩ (.slice A3 ya.length c3)).setCell ⟨g + 1, 2, none⟩ (.slice none 0 0)).cell? ⟨bb, 2, none⟩ = some (.slice none 0 0) := HCBA.out.cell (by show bb ≠ g + 1; omega) n2b
        have k0a : (((U.setCell ⟨g + 1, 0, none⟩ (.bool true)).setCell ⟨g + 1, 1, none⟩ (.slice A3 ya.length c3)).setCell ⟨g + 1, 2, none⟩ (.slice none 0 0)).cell? ⟨q, 0, none⟩ = some (.string y0.1) := HCA.out.cell (by show q ≠ g + 1; omega) k0
        have k0ab : ((((((U.setCell ⟨g + 1, 0, none⟩ (.bool true)).setCell ⟨g + 1, 1, none⟩ (.slice A3 ya.length c3)).setCell ⟨g + 1, 2, none⟩ (.slice none 0 0)).setCell ⟨g + 1 + 1, 0, none⟩ (.bool true)).setCell ⟨g + 1 + 1, 1, none⟩ (.slice (some ⟨q, 0, none⟩) (y0 :: yt).length c4)).setCell ⟨g + 1 + 1, 2, none⟩ (.slice none 0 0)).cell? ⟨q, 0, none⟩ = some (.string y0.1) := HCAB.out.cell (by show q ≠ g + 1 + 1; omega) k0a
        have k0b : (((U.setCell ⟨g + 1 + 1, 0, none⟩ (.bool true)).setCell ⟨g + 1 + 1, 1, none⟩ (.slice (some ⟨q, 0, none⟩) (y0 :: yt).length c4)).setCell ⟨g + 1 + 1, 2, none⟩ (.slice none 0 0)).cell? ⟨q, 0, none⟩ = some (.string y0.1) := HCB.out.cell (by show q ≠ g + 1 + 1; omega) k0
        have k0ba : ((((((U.setCell ⟨g + 1 + 1, 0, none⟩ (.bool true)).setCell ⟨g + 1 + 1, 1, none⟩ (.slice (some ⟨q, 0, none⟩) (y0 :: yt).length c4)).setCell ⟨g + 1 + 1, 2, none⟩ (.slice none 0 0)).setCell ⟨g + 1, 0, none⟩ (.bool true)).setCell ⟨g + 1, 1, none⟩ (.slice A3 ya.length c3)).setCell ⟨g + 1, 2, none⟩ (.slice none 0 0)).cell? ⟨q, 0, none⟩ = some (.string y0.1) := HCBA.out.cell (by show q ≠ g + 1; omega) k0b
        have p0b : (((U.setCell ⟨g + 1 + 1, 0, none⟩ (.bool true)).setCell ⟨g + 1 + 1, 1, none⟩ (.slice (some ⟨q, 0, none⟩) (y0 :: yt).length c4)).setCell ⟨g + 1 + 1, 2, none⟩ (.slice none 0 0)).cell? ⟨g + 1, 0, none⟩ = some (.bool false) := HCB.out.cell (by show g + 1 ≠ g + 1 + 1; omega) p0
        have fp0b : (((U.setCell ⟨g + 1 + 1, 0, none⟩ (.bool true)).setCell ⟨g + 1 + 1, 1, none⟩ (.slice (some ⟨q, 0, none⟩) (y0 :: yt).length c4)).setCell ⟨g + 1 + 1, 2, none⟩ (.slice none 0 0)).frozen? ⟨g + 1, 0, none⟩ = false := (HCB.out.frozen (by show g + 1 ≠ g + 1 + 1; omega) (lt_of_row HF.out.1.r1)).trans fp0
        have p1b : (((U.setCell ⟨g + 1 + 1, 0, none⟩ (.bool true)).setCell ⟨g + 1 + 1, 1, none⟩ (.slice (some ⟨q, 0, none⟩) (y0 :: yt).length c4)).setCell ⟨g + 1 + 1, 2, none⟩ (.slice none 0 0)).cell? ⟨g + 1, 1, none⟩ = some (.slice none 0 0) := HCB.out.cell (by show g + 1 ≠ g + 1 + 1; omega) p1
        have fp1b : (((U.setCell ⟨g + 1 + 1, 0, none⟩ (.bool true)).setCell ⟨g + 1 + 1, 1, none⟩ (.slice (some ⟨q, 0, none⟩) (y0 :: yt).length c4)).setCell ⟨g + 1 + 1, 2, none⟩ (.slice none 0 0)).frozen? ⟨g + 1, 1, none⟩ = false := (HCB.out.frozen (by show g + 1 ≠ g + 1 + 1; omega) (lt_of_row HF.out.1.r1)).trans fp1
        have p2b : (((U.setCell ⟨g + 1 + 1, 0, none⟩ (.bool true)).setCell ⟨g + 1 + 1, 1, none⟩ (.slice (some ⟨q, 0, none⟩) (y0 :: yt).length c4)).setCell ⟨g + 1 + 1, 2, none⟩ (.slice none 0 0)).cell? ⟨g + 1, 2, none⟩ = some (.slice none 0 0) := HCB.out.cell (by show g + 1 ≠ g + 1 + 1; omega) p2
        have fp2b : (((U.setCell ⟨g + 1 + 1, 0, none⟩ (.bool true)).setCell ⟨g + 1 + 1, 1, none⟩ (.slice (some ⟨q, 0, none⟩) (y0 :: yt).length c4)).setCell ⟨g + 1 + 1, 2, none⟩ (.slice none 0 0)).frozen? ⟨g + 1, 2, none⟩ = false := (HCB.out.frozen (by show g + 1 ≠ g + 1 + 1; omega) (lt_of_row HF.out.1.r1)).trans fp2
        have q0a : (((U.setCell ⟨g + 1, 0, none⟩ (.bool true)).setCell ⟨g + 1, 1, none⟩ (.slice A3 ya.length c3)).setCell ⟨g + 1, 2, none⟩ (.slice none 0 0)).cell? ⟨g + 1 + 1, 0, none⟩ = some (.bool false) := HCA.out.cell (by show g + 1 + 1 ≠ g + 1; omega) q0
        have fq0a : (((U.setCell ⟨g + 1, 0, none⟩ (.bool true)).setCell ⟨g + 1, 1, none⟩ (.slice A3 ya.length c3)).setCell ⟨g + 1, 2, none⟩ (.slice none 0 0)).frozen? ⟨g + 1 + 1, 0, none⟩ = false := (HCA.out.frozen (by show g + 1 + 1 ≠ g + 1; omega) (lt_of_row HF.out.1.r2)).trans fq0
        have q1a : (((U.setCell ⟨g + 1, 0, none⟩ (.bool true)).setCell ⟨g + 1, 1, none⟩ (.slice A3 ya.length c3)).setCell ⟨g + 1, 2, none⟩ (.slice none 0 0)).cell? ⟨g + 1 + 1, 1, none⟩ = some (.slice none 0 0) := HCA.out.cell (by show g + 1 + 1 ≠ g + 1; omega) q1
        have fq1a : (((U.setCell ⟨g + 1, 0, none⟩ (.bool true)).setCell ⟨g + 1, 1, none⟩ (.slice A3 ya.length c3)).setCell ⟨g + 1, 2, none⟩ (.slice none 0 0)).frozen? ⟨g + 1 + 1, 1, none⟩ = false := (HCA.out.frozen (by show g + 1 + 1 ≠ g + 1; omega) (lt_of_row HF.out.1.r2)).trans fq1
        have q2a : (((U.setCell ⟨g + 1, 0, none⟩ (.bool true)).setCell ⟨g + 1, 1, none⟩ (.slice A3 ya.length c3)).setCell ⟨g + 1, 2, none⟩ (.slice none 0 0)).cell? ⟨g + 1 + 1, 2, none⟩ = some (.slice none 0 0) := HCA.out.cell (by show g + 1 + 1 ≠ g + 1; omega) q2
        have fq2a : (((U.setCell ⟨g + 1, 0, none⟩ (.bool true)).setCell ⟨g + 1, 1, none⟩ (.slice A3 ya.length c3)).setCell ⟨g + 1, 2, none⟩ (.slice none 0 0)).frozen? ⟨g + 1 + 1, 2, none⟩ = false := (HCA.out.frozen (by show g + 1 + 1 ≠ g + 1; omega) (lt_of_row HF.out.1.r2)).trans fq2
        clear hla hlb hqx HCA HCB HCAB HCBA
        go_wp2
        go_region
        go_wp2
        have HE := Lib.hid (HF.out.1.end1 (.bool true) (.slice A3 ya.length c3) (.slice none 0 0) (.bool true) (.slice (some ⟨q, 0, none⟩) (y0 :: yt).length c4) (.slice none 0 0))
        have hla := HF.out.1.la
        refine bodyPost_ret (results_c_t_c rfl _ _ (g + 1) (g + 1 + 1) _ _ #[.bool true, .slice A3 ya.length c3, .slice none 0 0] #[.bool true, .slice (some ⟨q, 0, none⟩) (y0 :: yt).length c4, .slice none 0 0] (0, 0) (0, 0) (.struct _) (.struct _) rfl HE.out.2.1 Try.underlying27 rfl (by kernel_rfl) rfl HE.out.2.2 Try.underlying27 rfl (by kernel_rfl)) rfl ⟨_, _, rfl, ⟨A3, c3, rfl, (own_end HF.out.2.1 (by have := HBA.out.1; omega) _ _ _ _ _ _).slice ceCell_len, HF.out.2.1.cap_le.1, HF.out.2.1.cap_le.2⟩, ⟨some ⟨q, 0, none⟩, c4, rfl, (own_end HF.out.2.2 (by have := HBB.out.1; omega) _ _ _ _ _ _).slice ceCell_len, HF.out.2.2.cap_le.1, HF.out.2.2.cap_le.2⟩, HE.out.1⟩
    · have HU : Hid (SpW w ((V.alloc (.cells #[.bool true, .slice none 0 0, .slice none 0 0] 27)).alloc (.cells #[.bool true, .slice none 0 0, .slice none 0 0] 27)).drew g (V.heap.size + 1) (V.heap.size) #[.bool true, .slice (some ⟨a, off, none⟩) xs.length cap, .slice none 0 0] #[.bool false, .slice none 0 0, .slice none 0 0] #[.bool false, .slice none 0 0, .slice none 0 0] #[.bool true, .slice none 0 0, .slice none 0 0] #[.bool true, .slice none 0 0, .slice none 0 0]) := (lf_spl_world HGV.out HGW.out HR.out).2
      have HU2 := HU
      clear HU
      clear x0_0 HW0 x0_1 HW1 x0_2 HW2 x0_3 HW3 x0_4 HW4 x0_5 HW5 x0 HR HGV
      generalize ((V.alloc (.cells #[.bool true, .slice none 0 0, .slice none 0 0] 27)).alloc (.cells #[.bool true, .slice none 0 0, .slice none 0 0] 27)).drew = U at *
      generalize V.heap.size + 1 = ba at *
      generalize V.heap.size = bb at *
      have n0 := row_cell HU2.out.n 0 _ rfl
      have n1 := row_cell HU2.out.n 1 _ rfl
      have n2 := row_cell HU2.out.n 2 _ rfl
      go_wp2
      have HQ := Lib.hid n1
      have HU2d := Lib.hid (HU2.out.step (Gr.refl U).drew)
      go_region_held3 (fun w' => w'.cell? ⟨g, 1, none⟩ = some (.slice (some ⟨a, off, none⟩) xs.length cap)) (first | exact HQ.out | assumption)
        (first
          | (go_at_call 37; refine (sl_leaves _).mono ?_; rintro r v1 ⟨rfl, hg⟩; have HU3 := Lib.hid (HU2d.out.step hg); have HQ := Lib.hid (row_cell HU3.out.n 1 _ rfl); clear hg)
          | (go_at_call 36; refine (cH _ HU3.out.gr).out.mono ?_; clear cH; rintro r v2 ⟨rfl, hg⟩; have HU4 := Lib.hid (HU3.out.step hg); have HQ := Lib.hid (row_cell HU4.out.n 1 _ rfl); clear hg))
      clear HQ HU2d n0 n1 n2
      have t_0 := row_cell HU4.out.n 0 _ rfl; have t_1 := row_cell HU4.out.n 1 _ rfl; have t_2 := row_cell HU4.out.n 2 _ rfl
      have ne1 := HU4.out.ne
      have ne2 := HU4.out.ne.symm
      have hga : g ≠ ba := by have := HU4.out.la; omega
      have hgb : g ≠ bb := by have := HU4.out.lb; omega
      go_wp2
      have HQ := Lib.hid t_1
      have HU4d := Lib.hid (HU4.out.step (Gr.refl v2).drew)
      have HBA : Hid (ba < (v2.drew).heap.size ∧ bb < (v2.drew).heap.size) := ⟨lt_of_row HU4d.out.a, lt_of_row HU4d.out.b⟩
      go_region_held3 (fun w' => w'.cell? ⟨g, 1, none⟩ = some (.slice (some ⟨a, off, none⟩) xs.length cap)) (first | exact HQ.out | (with_reducible exact ((Ch.refl ba _).setCell 1 _).cell hga HQ.out) | (with_reducible exact ((Ch.refl bb _).setCell 1 _).cell hgb HQ.out) | (with_reducible exact ((Ch.refl bb _).setCell 1 _).cell hgb (((Ch.refl ba _).setCell 1 _).cell hga HQ.out)) | (with_reducible exact ((Ch.refl ba _).setCell 1 _).cell hga (((Ch.refl bb _).setCell 1 _).cell hgb HQ.out)) | assumption)
        (first
          | (go_at_call_of 38 (Value.slice (some ⟨a, off, none⟩) i cap); refine (cC1 _ HU4d.out.gr).out.mono ?_; clear cC1; rintro r v3 ⟨A3, c3, rfl, hown, hg⟩; have HU5 := Lib.hid (HU4d.out.step hg); have HO3 := Lib.hid hown; have HQ : Hid (v3.cell? ⟨g, 1, none⟩ = some (.slice (some ⟨a, off, none⟩) xs.length cap)) := row_cell HU5.out.n 1 _ rfl; clear hg hown)
          | (go_at_call 38; refine (cC2 _ HU5.out.gr).out.mono ?_; clear cC2; rintro r v4 ⟨A4, c4, rfl, hown, hg⟩; have HU6 := Lib.hid (HU5.out.step hg); have HO4 := Lib.hid (And.intro (HO3.out.gr hg) hown); have ho3 : ∀ x, ownOf A3 = some x → x < v3.heap.size := fun x hx => (HO3.out.lt hx).1; have HBB : Hid (ba < v3.heap.size ∧ bb < v3.heap.size) := ⟨lt_of_row HU5.out.a, lt_of_row HU5.out.b⟩; have HQ : Hid (v4.cell? ⟨g, 1, none⟩ = some (.slice (some ⟨a, off, none⟩) xs.length cap)) := row_cell HU6.out.n 1 _ rfl; have ca := row_cell HU6.out.a 1 _ rfl; have fa := frozen_of_row _ _ 1 _ _ HU6.out.a; have cb := row_cell HU6.out.b 1 _ rfl; have fb := frozen_of_row _ _ 1 _ _ HU6.out.b; clear hg hown))
      have HF : Hid (SpW w ((v4.setCell ⟨ba, 1, none⟩ (.slice A3 ya.length c3)).setCell ⟨bb, 1, none⟩ (.slice A4 yb.length c4)) g ba bb #[.bool true, .slice (some ⟨a, off, none⟩) xs.length cap, .slice none 0 0] #[.bool false, .slice none 0 0, .slice none 0 0] #[.bool false, .slice none 0 0, .slice none 0 0] #[.bool true, .slice A3 ya.length c3, .slice none 0 0] #[.bool true, .slice A4 yb.length c4, .slice none 0 0] ∧ Own ((v4.setCell ⟨ba, 1, none⟩ (.slice A3 ya.length c3)).setCell ⟨bb, 1, none⟩ (.slice A4 yb.length c4)) (v2.drew).heap.size 59 4 ceCell A3 c3 ya ∧ Own ((v4.setCell ⟨ba, 1, none⟩ (.slice A3 ya.length c3)).setCell ⟨bb, 1, none⟩ (.slice A4 yb.length c4)) v3.heap.size 59 4 ceCell A4 c4 yb) := ⟨HU6.out.put2 1 _ _, own_put2 HO4.out.1 HBA.out.1 HBA.out.2 _ _ _, own_put2 HO4.out.2 HBB.out.1 HBB.out.2 _ _ _⟩
      clear HU2 HU3 HU4 HU4d HU5 HU6 HO3 HO4 HQ t_0 t_1 t_2 ca fa cb fb
      generalize (v4.setCell ⟨ba, 1, none⟩ (.slice A3 ya.length c3)).setCell ⟨bb, 1, none⟩ (.slice A4 yb.length c4) = U at *
      cases yb with
      | nil => simp at hyb0
      | cons y0 yt =>
        obtain ⟨q, rfl, hq1, hq2, hqc⟩ := HF.out.2.2.head ceCell_len
        have hqb : g + 2 < q := by have := HF.out.1.la; have := HBB.out.1; omega
        have hqb2 : bb < q := by have := HBB.out.2; omega
        have k0 : U.cell? ⟨q, 0, none⟩ = some (.string y0.1) := hqc 0 _ rfl
        have HQB := Lib.hid (And.intro hqb hqb2)
        have HQC := Lib.hid hqc
        have HBX := Lib.hid hq1
        clear hq1 hq2 hqc hyb0
        have n0 := row_cell HF.out.1.b 0 _ rfl
        have n1 := row_cell HF.out.1.b 1 _ rfl
        have n2 := row_cell HF.out.1.b 2 _ rfl
        have m0 := row_cell HF.out.1.a 0 _ rfl
        have m1 := row_cell HF.out.1.a 1 _ rfl
        have m2 := row_cell HF.out.1.a 2 _ rfl
        have p0 := row_cell HF.out.1.r1 0 _ rfl
        have p1 := row_cell HF.out.1.r1 1 _ rfl
        have p2 := row_cell HF.out.1.r1 2 _ rfl
        have q0 := row_cell HF.out.1.r2 0 _ rfl
        have q1 := row_cell HF.out.1.r2 1 _ rfl
        have q2 := row_cell HF.out.1.r2 2 _ rfl
        have fp0 := frozen_of_row _ _ 0 _ _ HF.out.1.r1
        have fp1 := frozen_of_row _ _ 1 _ _ HF.out.1.r1
        have fp2 := frozen_of_row _ _ 2 _ _ HF.out.1.r1
        have fq0 := frozen_of_row _ _ 0 _ _ HF.out.1.r2
        have fq1 := frozen_of_row _ _ 1 _ _ HF.out.1.r2
        have fq2 := frozen_of_row _ _ 2 _ _ HF.out.1.r2
        have hla := HF.out.1.la
        have hlb := HF.out.1.lb
        have hqx := HQB.out.1
        have HCA := Lib.hid ((((Ch.refl (g + 1) U).setCell 0 (.bool true)).setCell 1 (.slice A3 ya.length c3)).setCell 2 (.slice none 0 0))
        have HCB := Lib.hid ((((Ch.refl (g + 1 + 1) U).setCell 0 (.bool true)).setCell 1 (.slice (some ⟨q, 0, none⟩) (y0 :: yt).length c4)).setCell 2 (.slice none 0 0))
        have HCAB := Lib.hid ((((Ch.refl (g + 1 + 1) (((U.setCell ⟨g + 1, 0, none⟩ (.bool true)).setCell ⟨g + 1, 1, none⟩ (.slice A3 ya.length c3)).setCell ⟨g + 1, 2, none⟩ (.slice none 0 0))).setCell 0 (.bool true)).setCell 1 (.slice (some ⟨q, 0, none⟩) (y0 :: yt).length c4)).setCell 2 (.slice none 0 0))
        have HCBA := Lib.hid ((((Ch.refl (g + 1) (((U.setCell ⟨g + 1 + 1, 0, none⟩ (.bool true)).setCell ⟨g + 1 + 1, 1, none⟩ (.slice (some ⟨q, 0, none⟩) (y0 :: yt).length c4)).setCell ⟨g + 1 + 1, 2, none⟩ (.slice none 0 0))).setCell 0 (.bool true)).setCell 1 (.slice A3 ya.length c3)).setCell 2 (.slice none 0 0))
        have m0b : (((U.setCell ⟨g + 1 + 1, 0, none⟩ (.bool true)).setCell ⟨g + 1 + 1, 1, none⟩ (.slice (some ⟨q, 0, none⟩) (y0 :: yt).length c4)).setCell ⟨g + 1 + 1, 2, none⟩ (.slice none 0 0)).cell? ⟨ba, 0, none⟩ = some (.bool true) := HCB.out.cell (by show ba ≠ g + 1 + 1; omega) m0
        have m1b : (((U.setCell ⟨g + 1 + 1, 0, none⟩ (.bool true)).setCell ⟨g + 1 + 1, 1, none⟩ (.slice (some ⟨q, 0, none⟩) (y0 :: yt).length c4)).setCell ⟨g + 1 + 1, 2, none⟩ (.slice none 0 0)).cell? ⟨ba, 1, none⟩ = some (.slice A3 ya.length c3) := HCB.out.cell (by show ba ≠ g + 1 + 1; omega) m1
        have m2b : (((U.setCell ⟨g + 1 + 1, 0, none⟩ (.bool true)).setCell ⟨g + 1 + 1, 1, none⟩ (.slice (some ⟨q, 0, none⟩) (y0 :: yt).length c4)).setCell ⟨g + 1 + 1, 2, none⟩ (.slice none 0 0)).cell? ⟨ba, 2, none⟩ = some (.slice none 0 0) := HCB.out.cell (by show ba ≠ g + 1 + 1; omega) m2
        have n0a : (((U.setCell ⟨g + 1, 0, none⟩ (.bool true)).setCell ⟨g + 1, 1, none⟩ (.slice A3 ya.length c3)).setCell ⟨g + 1, 2, none⟩ (.slice none 0 0)).cell? ⟨bb, 0, none⟩ = some (.bool true) := HCA.out.cell (by show bb ≠ g + 1; omega) n0
        have n0ab : ((((((U.setCell ⟨g + 1, 0, none⟩ (.bool true)).setCell ⟨g + 1, 1, none⟩ (.slice A3 ya.length c3)).setCell ⟨g + 1, 2, none⟩ (.slice none 0 0)).setCell ⟨g + 1 + 1, 0, none⟩ (.bool true)).setCell ⟨g + 1 + 1, 1, none⟩ (.slice (some ⟨q, 0, none⟩) (y0 :: yt).length c4)).setCell ⟨g + 1 + 1, 2, none⟩ (.slice none 0 0)).cell? ⟨bb, 0, none⟩ = some (.bool true) := HCAB.out.cell (by show bb ≠ g + 1 + 1; omega) n0a
        have n0b : (((U.setCell ⟨g + 1 + 1, 0, none⟩ (.bool true)).setCell ⟨g + 1 + 1, 1, none⟩ (.slice (some ⟨q, 0, none⟩) (y0 :: yt).length c4)).setCell ⟨g + 1 + 1, 2, none⟩ (.slice none 0 0)).cell? ⟨bb, 0, none⟩ = some (.bool true) := HCB.out.cell (by show bb ≠ g + 1 + 1; omega) n0
        have n0ba : ((((((U.setCell ⟨g + 1 + 1, 0, none⟩ (.bool true)).setCell ⟨g + 1 + 1, 1, none⟩ (.slice (some ⟨q, 0, none⟩) (y0 :: yt).length c4)).setCell ⟨g + 1 + 1, 2, none⟩ (.slice none 0 0)).setCell ⟨g + 1, 0, none⟩ (.bool true)).setCell ⟨g + 1, 1, none⟩ (.slice A3 ya.length c3)).setCell ⟨g + 1, 2, none⟩ (.slice none 0 0)).cell? ⟨bb, 0, none⟩ = some (.bool true) := HCBA.out.cell (by show bb ≠ g + 1; omega) n0b
        have n1a : (((U.setCell ⟨g + 1, 0, none⟩ (.bool true)).setCell ⟨g + 1, 1, none⟩ (.slice A3 ya.length c3)).setCell ⟨g + 1, 2, none⟩ (.slice none 0 0)).cell? ⟨bb, 1, none⟩ = some (.slice (some ⟨q, 0, none⟩) (y0 :: yt).length c4) := HCA.out.cell (by show bb ≠ g + 1; omega) n1
        have n1ab : ((((((U.setCell ⟨g + 1, 0, none⟩ (.bool true)).setCell ⟨g + 1, 1, none⟩ (.slice A3 ya.length c3)).setCell ⟨g + 1, 2, none⟩ (.slice none 0 0)).setCell ⟨g + 1 + 1, 0, none⟩ (.bool true)).setCell ⟨g + 1 + 1, 1, none⟩ (.slice (some ⟨q, 0, none⟩) (y0 :: yt).length c4)).setCell ⟨g + 1 + 1, 2, none⟩ (.slice none 0 0)).cell? ⟨bb, 1, none⟩ = some (.slice (some ⟨q, 0, none⟩) (y0 :: yt).length c4) := HCAB.out.cell (by show bb ≠ g + 1 + 1; omega) n1a
        have n1b : (((U.setCell ⟨g + 1 + 1, 0, none⟩ (.bool true)).setCell ⟨g + 1 + 1, 1, none⟩ (.slice (some ⟨q, 0, none⟩) (y0 :: yt).length c4)).setCell ⟨g + 1 + 1, 2, none⟩ (.slice none 0 0)).cell? ⟨bb, 1, none⟩ = some (.slice (some ⟨q, 0, none⟩) (y0 :: yt).length c4) := HCB.out.cell (by show bb ≠ g + 1 + 1; omega) n1
        have n1ba : ((((((U.setCell ⟨g + 1 + 1, 0, none⟩ (.bool true)).setCell ⟨g + 1 + 1, 1, none⟩ (.slice (some ⟨q, 0, none⟩) (y0 :: yt).length c4)).setCell ⟨g + 1 + 1, 2, none⟩ (.slice none 0 0)).setCell ⟨g + 1, 0, none⟩ (.bool true)).setCell ⟨g + 1, 1, none⟩ (.slice A3 ya.length c3)).setCell ⟨g + 1, 2, none⟩ (.slice none 0 0)).cell? ⟨bb, 1, none⟩ = some (.slice (some ⟨q, 0, none⟩) (y0 :: yt).length c4) := HCBA.out.cell (by show bb ≠ g + 1; omega) n1b
        have n2a : (((U.setCell ⟨g + 1, 0, none⟩ (.bool true)).setCell ⟨g + 1, 1, none⟩ (.slice A3 ya.length c3)).setCell ⟨g + 1, 2, none⟩ (.slice none 0 0)).cell? ⟨bb, 2, none⟩ = some (.slice none 0 0) := HCA.out.cell (by show bb ≠ g + 1; omega) n2
        have n2ab : ((((((U.setCell ⟨g + 1, 0, none⟩ (.bool true)).setCell ⟨g + 1, 1, none⟩ (.slice A3 ya.length c3)).setCell ⟨g + 1, 2, none⟩ (.slice none 0 0)).setCell ⟨g + 1 + 1, 0, none⟩ (.bool true)).setCell ⟨g + 1 + 1, 1, none⟩ (.slice (some ⟨q, 0, none⟩) (y0 :: yt).length c4)).setCell ⟨g + 1 + 1, 2, none⟩ (.slice none 0 0)).cell? ⟨bb, 2, none⟩ = some (.slice none 0 0) := HCAB.out.cell (by show bb ≠ g + 1 + 1; omega) n2a
        have n2b : (((U.setCell ⟨g + 1 + 1, 0, none⟩ (.bool true)).setCell ⟨g + 1 + 1, 1, none⟩ (.slice (some ⟨q, 0, none⟩) (y0 :: yt).length c4)).setCell ⟨g + 1 + 1, 2, none⟩ (.slice none 0 0)).cell? ⟨bb, 2, none⟩ = some (.slice none 0 0) := HCB.out.cell (by show bb ≠ g + 1 + 1; omega) n2
        have n2ba : ((((((U.setCell ⟨g + 1 + 1, 0, none⟩ (.bool true)).setCell ⟨g + 1 + 1, 1, none⟩ (.slice (some ⟨q, 0, none⟩) (y0 :: yt).length c4)).setCell ⟨g + 1 + 1, 2, none⟩ (.slice none 0 0)).setCell ⟨g + 1, 0, none⟩ (.bool true)).setCell ⟨g + 1, 1, none⟩ (.slice A3 ya.length c3)).setCell ⟨g + 1, 2, none⟩ (.slice none 0 0)).cell? ⟨bb, 2, none⟩ = some (.slice none 0 0) := HCBA.out.cell (by show bb ≠ g + 1; omega) n2b
        have k0a : (((U.setCell ⟨g + 1, 0, none⟩ (.bool true)).setCell ⟨g + 1, 1, none⟩ (.slice A3 ya.length c3)).setCell ⟨g + 1, 2, none⟩ (.slice none 0 0)).cell? ⟨q, 0, none⟩ = some (.string y0.1) := HCA.out.cell (by show q ≠ g + 1; omega) k0
        have k0ab : ((((((U.setCell ⟨g + 1, 0, none⟩ (.bool true)).setCell ⟨g + 1, 1, none⟩ (.slice A3 ya.length c3)).setCell ⟨g + 1, 2, none⟩ (.slice none 0 0)).setCell ⟨g + 1 + 1, 0, none⟩ (.bool true)).setCell ⟨g + 1 + 1, 1, none⟩ (.slice (some ⟨q, 0, none⟩) (y0 :: yt).length c4)).setCell ⟨g + 1 + 1, 2, none⟩ (.slice none 0 0)).cell? ⟨q, 0, none⟩ = some (.string y0.1) := HCAB.out.cell (by show q ≠ g + 1 + 1; omega) k0a
        have k0b : (((U.setCell ⟨g + 1 + 1, 0, none⟩ (.bool true)).setCell ⟨g + 1 + 1, 1, none⟩ (.slice (some ⟨q, 0, none⟩) (y0 :: yt).length c4)).setCell ⟨g + 1 + 1, 2, none⟩ (.slice none 0 0)).cell? ⟨q, 0, none⟩ = some (.string y0.1) := HCB.out.cell (by show q ≠ g + 1 + 1; omega) k0
        have k0ba : ((((((U.setCell ⟨g + 1 + 1, 0, none⟩ (.bool true)).setCell ⟨g + 1 + 1, 1, none⟩ (.slice (some ⟨q, 0, none⟩) (y0 :: yt).length c4)).setCell ⟨g + 1 + 1, 2, none⟩ (.slice none 0 0)).setCell ⟨g + 1, 0, none⟩ (.bool true)).setCell ⟨g + 1, 1, none⟩ (.slice A3 ya.length c3)).setCell ⟨g + 1, 2, none⟩ (.slice none 0 0)).cell? ⟨q, 0, none⟩ = some (.string y0.1) := HCBA.out.cell (by show q ≠ g + 1; omega) k0b
        have p0b : (((U.setCell ⟨g + 1 + 1, 0, none⟩ (.bool true)).setCell ⟨g + 1 + 1, 1, none⟩ (.slice (some ⟨q, 0, none⟩) (y0 :: yt).length c4)).setCell ⟨g + 1 + 1, 2, none⟩ (.slice none 0 0)).cell? ⟨g + 1, 0, none⟩ = some (.bool false) := HCB.out.cell (by show g + 1 ≠ g + 1 + 1; omega) p0
        have fp0b : (((U.setCell ⟨g + 1 + 1, 0, none⟩ (.bool true)).setCell ⟨g + 1 + 1, 1, none⟩ (.slice (some ⟨q, 0, none⟩) (y0 :: yt).length c4)).setCell ⟨g + 1 + 1, 2, none⟩ (.slice none 0 0)).frozen? ⟨g + 1, 0, none⟩ = false := (HCB.out.frozen (by show g + 1 ≠ g + 1 + 1; omega) (lt_of_row HF.out.1.r1)).trans fp0
        have p1b : (((U.setCell ⟨g + 1 + 1, 0, none⟩ (.bool true)).setCell ⟨g + 1 + 1, 1, none⟩ (.slice (some ⟨q, 0, none⟩) (y0 :: yt).length c4)).setCell ⟨g + 1 + 1, 2, none⟩ (.slice none 0 0)).cell? ⟨g + 1, 1, none⟩ = some (.slice none 0 0) := HCB.out.cell (by show g + 1 ≠ g + 1 + 1; omega) p1
        have fp1b : (((U.setCell ⟨g + 1 + 1, 0, none⟩ (.bool true)).setCell ⟨g + 1 + 1, 1, none⟩ (.slice (some ⟨q, 0, none⟩) (y0 :: yt).length c4)).setCell ⟨g + 1 + 1, 2, none⟩ (.slice none 0 0)).frozen? ⟨g + 1, 1, none⟩ = false := (HCB.out.frozen (by show g + 1 ≠ g + 1 + 1; omega) (lt_of_row HF.out.1.r1)).trans fp1
        have p2b : (((U.setCell ⟨g + 1 + 1, 0, none⟩ (.bool true)).setCell ⟨g + 1 + 1, 1, none⟩ (.slice (some ⟨q, 0, none⟩) (y0 :: yt).length c4)).setCell ⟨g + 1 + 1, 2, none⟩ (.slice none 0 0)).cell? ⟨g + 1, 2, none⟩ = some (.slice none 0 0) := HCB.out.cell (by show g + 1 ≠ g + 1 + 1; omega) p2
        have fp2b : (((U.setCell ⟨g + 1 + 1, 0, none⟩ (.bool true)).setCell ⟨g + 1 + 1, 1, none⟩ (.slice (some ⟨q, 0, none⟩) (y0 :: yt).length c4)).setCell ⟨g + 1 + 1, 2, none⟩ (.slice none 0 0)).frozen? ⟨g + 1, 2, none⟩ = false := (HCB.out.frozen (by show g + 1 ≠ g + 1 + 1; omega) (lt_of_row HF.out.1.r1)).trans fp2
        have q0a : (((U.setCell ⟨g + 1, 0, none⟩ (.bool true)).setCell ⟨g + 1, 1, none⟩ (.slice A3 ya.length c3)).setCell ⟨g + 1, 2, none⟩ (.slice none 0 0)).cell? ⟨g + 1 + 1, 0, none⟩ = some (.bool false) := HCA.out.cell (by show g + 1 + 1 ≠ g + 1; omega) q0
        have fq0a : (((U.setCell ⟨g + 1, 0, none⟩ (.bool true)).setCell ⟨g + 1, 1, none⟩ (.slice A3 ya.length c3)).setCell ⟨g + 1, 2, none⟩ (.slice none 0 0)).frozen? ⟨g + 1 + 1, 0, none⟩ = false := (HCA.out.frozen (by show g + 1 + 1 ≠ g + 1; omega) (lt_of_row HF.out.1.r2)).trans fq0
        have q1a : (((U.setCell ⟨g + 1, 0, none⟩ (.bool true)).setCell ⟨g + 1, 1, none⟩ (.slice A3 ya.length c3)).setCell ⟨g + 1, 2, none⟩ (.slice none 0 0)).cell? ⟨g + 1 + 1, 1, none⟩ = some (.slice none 0 0) := HCA.out.cell (by show g + 1 + 1 ≠ g + 1; omega) q1
        have fq1a : (((U.setCell ⟨g + 1, 0, none⟩ (.bool true)).setCell ⟨g + 1, 1, none⟩ (.slice A3 ya.length c3)).setCell ⟨g + 1, 2, none⟩ (.slice none 0 0)).frozen? ⟨g + 1 + 1, 1, none⟩ = false := (HCA.out.frozen (by show g + 1 + 1 ≠ g + 1; omega) (lt_of_row HF.out.1.r2)).trans fq1
        have q2a : (((U.setCell ⟨g + 1, 0, none⟩ (.bool true)).setCell ⟨g + 1, 1, none⟩ (.slice A3 ya.length c3)).setCell ⟨g + 1, 2, none⟩ (.slice none 0 0)).cell? ⟨g + 1 + 1, 2, none⟩ = some (.slice none 0 0) := HCA.out.cell (by show g + 1 + 1 ≠ g + 1; omega) q2
        have fq2a : (((U.setCell ⟨g + 1, 0, none⟩ (.bool true)).setCell ⟨g + 1, 1, none⟩ (.slice A3 ya.length c3)).setCell ⟨g + 1, 2, none⟩ (.slice none 0 0)).frozen? ⟨g + 1 + 1, 2, none⟩ = false := (HCA.out.frozen (by show g + 1 + 1 ≠ g + 1; omega) (lt_of_row HF.out.1.r2)).trans fq2
        clear hla hlb hqx HCA HCB HCAB HCBA
        go_wp2
        go_region
        go_wp2
        have HE := Lib.hid (HF.out.1.end1 (.bool true) (.slice A3 ya.length c3) (.slice none 0 0) (.bool true) (.slice (some ⟨q, 0, none⟩) (y0 :: yt).length c4) (.slice none 0 0))
        have hla := HF.out.1.la
        refine bodyPost_ret (results_c_t_c rfl _ _ (g + 1) (g + 1 + 1) _ _ #[.bool true, .slice A3 ya.length c3, .slice none 0 0] #[.bool true, .slice (some ⟨q, 0, none⟩) (y0 :: yt).length c4, .slice none 0 0] (0, 0) (0, 0) (.struct _) (.struct _) rfl HE.out.2.1 Try.underlying27 rfl (by kernel_rfl) rfl HE.out.2.2 Try.underlying27 rfl (by kernel_rfl)) rfl ⟨_, _, rfl, ⟨A3, c3, rfl, (own_end HF.out.2.1 (by have := HBA.out.1; omega) _ _ _ _ _ _).slice ceCell_len, HF.out.2.1.cap_le.1, HF.out.2.1.cap_le.2⟩, ⟨some ⟨q, 0, none⟩, c4, rfl, (own_end HF.out.2.2 (by have := HBB.out.1; omega) _ _ _ _ _ _).slice ceCell_len, HF.out.2.2.cap_le.1, HF.out.2.2.cap_le.2⟩, HE.out.1⟩
end Go.Proofs.Ytmpmfgkabjedpaa
