/- Layer 6: a key, a leaf's cell, a branch's cell off a reader (printed by slget_gen.py). -/
import Derived.Test.YtbkcfadbjebbdaaSlParse
import Derived.Test.YtbkcfadbjebbdaaOctNum
import Derived.Test.YtbkcfadbjebbdaaOwn2
namespace Go.Proofs.Ytbkcfadbjebbdaa
open Go.RowKit
set_option linter.unusedVariables false
set_option linter.unusedSimpArgs false
set_option maxRecDepth 100000
set_option maxHeartbeats 2000000
theorem Ch.setRow {b g : Nat} {w w' : World} (h : Ch b w w') (hg : w.heap.size ≤ g) (cs : Array Value) : Ch b w (w'.setRow g cs) :=
  ⟨h.os, h.tape, h.output, by rw [setRow_size]; exact h.size, fun k hk hb => (setRow_other _ _ _ _ (by omega)).trans (h.block k hk hb)⟩
theorem sl_getKey (b : Nat) (s : ByteArray) (hs : s.size ≤ maxLen) (e : Int) (w : World) (h : RdAt w b s e) :
    Calls Try.prog 79 #[.pointer (some ⟨b, 0, none⟩)] w fun r w' => r = .returned (.string (rdKey s e).1) ∧ RdAt w' b (rdKey s e).2.1 (rdKey s e).2.2 ∧ Ch b w w' := by
  have h1 := rdNum_size s e 1
  have h2 := rdNum_lt s e 1
  have HE : Hid (rdKey s e = rdTake (rdNum s e 1).2.1 (rdNum s e 1).2.2 (rdNum s e 1).1) := rfl
  generalize rdKey s e = q at *
  have c1 := Lib.hid (oct_rdone b s hs e w h)
  generalize rdNum s e 1 = p at *
  obtain ⟨n, s1, e1⟩ := p
  simp only at h1 h2 c1 HE
  have c2 := fun w1 h1' => Lib.hid (oct_take b s1 (Nat.le_trans h1 hs) e1 (n : Nat) w1 h1')
  rw [← HE.out] at c2
  clear h HE
  obtain ⟨k, s2, e2⟩ := q
  simp only at c2 ⊢
  go_enter Try.func79, Try.ntmps79
  go_wp2_with (first
    | (go_at_call 131; refine c1.out.mono ?_; clear c1; rintro r v1 ⟨rfl, hr, hc⟩; have HR := Lib.hid (And.intro hr hc); clear hr hc)
    | (go_at_call 132; refine (c2 _ HR.out.1).out.mono ?_; clear c2; rintro r v2 ⟨rfl, hr, hc⟩; have HR2 := Lib.hid (And.intro hr (HR.out.2.trans hc)); clear hr hc))
  go_ret
  exact ⟨rfl, HR2.out.1, HR2.out.2⟩
theorem sl_getKid (b : Nat) (s : ByteArray) (hs : s.size ≤ maxLen) (e : Int) (w : World) (h : RdAt w b s e) :
    Calls Try.prog 78 #[.pointer (some ⟨b, 0, none⟩)] w fun r w' => r = .returned (.agg #[.string (rdKi s e).1.1, .int .u32 ((rdKi s e).1.2 : Nat)]) ∧ RdAt w' b (rdKi s e).2.1 (rdKi s e).2.2 ∧ Ch b w w' := by
  have h1 := (rdKey_size s e).2
  have HE : Hid (rdKi s e = (((rdKey s e).1, (rdNum (rdKey s e).2.1 (rdKey s e).2.2 4).1), (rdNum (rdKey s e).2.1 (rdKey s e).2.2 4).2)) := rfl
  generalize rdKi s e = q at *
  have c1 := fun w1 h1' => Lib.hid (sl_getKey b s hs e w1 h1')
  generalize rdKey s e = p at *
  obtain ⟨k, s1, e1⟩ := p
  simp only at h1 c1 HE
  have c2 := fun w1 h1' => Lib.hid (oct_rdfour b s1 (Nat.le_trans h1 hs) e1 w1 h1')
  generalize rdNum s1 e1 4 = p at *
  obtain ⟨n, s2, e2⟩ := p
  simp only at c2 HE
  have HQ := Lib.hid HE.out
  clear HE
  have hlt := h.lt
  have HG := Lib.hid (heap_alloc_last w (.cells #[.string { data := #[] }, .int .u32 0] 47))
  have H0 := Lib.hid (h.gr ((Gr.refl w).alloc (.cells #[.string { data := #[] }, .int .u32 0] 47)))
  have HC0 : Hid (Ch b w (w.alloc (.cells #[.string { data := #[] }, .int .u32 0] 47))) := ((Gr.refl w).alloc _).ch b
  clear h
  go_enter Try.func78, Try.ntmps78
  go_wp2_with (fail)
  generalize w.alloc (.cells #[.string { data := #[] }, .int .u32 0] 47) = W at *
  have hgb : w.heap.size ≠ b := by omega
  have hge : w.heap.size ≤ w.heap.size := Nat.le_refl _
  obtain ⟨g, hgg⟩ : ∃ g, g = w.heap.size := ⟨_, rfl⟩
  have HGG := Lib.hid hgg
  rw [← hgg] at HG hlt hgb ⊢
  clear hgg hge
  go_wp2_with (first
    | (go_at_call 79; refine (c1 _ H0.out).out.mono ?_; clear c1; rintro r v1 ⟨rfl, hr, hc⟩; have HR := Lib.hid (And.intro hr (And.intro (HC0.out.trans hc) ((hc.block g (lt_of_row HG.out) hgb).trans HG.out))); clear hr hc)
    | (go_at_call 80; refine (c2 _ HR.out.1).out.mono ?_; clear c2; rintro r v2 ⟨rfl, hr, hc⟩; have HR2 := Lib.hid (And.intro hr (And.intro (HR.out.2.1.trans hc) ((hc.block g (lt_of_row HR.out.2.2) hgb).trans HR.out.2.2))); clear hr hc; have z0 := row_cell HR2.out.2.2 0 _ rfl; have z1 := row_cell HR2.out.2.2 1 _ rfl; have f0 := frozen_of_row _ _ 0 _ _ HR2.out.2.2; have f1 := frozen_of_row _ _ 1 _ _ HR2.out.2.2))
  refine bodyPost_ret (v := .agg #[.string k, .int .u32 (n : Nat)]) (results_cell_row rfl _ _ g _ #[.string k, .int .u32 (n : Nat)] (0, 0) (.struct _) rfl (heap_setCell_same _ _ 1 _ _ _ (heap_setCell_same _ _ 0 _ _ _ HR2.out.2.2)) Try.underlying47 rfl (by kernel_rfl)) rfl ⟨?_, ?_, ?_⟩
  · rw [HQ.out]
  · rw [HQ.out]; exact HR2.out.1.of_block ((Below.heap_setCell _ _ _ _ (by show b ≠ g; omega)).trans (Below.heap_setCell _ _ _ _ (by show b ≠ g; omega)))
  · exact (HR2.out.2.1.setFar (by rw [HGG.out]; exact Nat.le_refl _) 0 _).setFar (by rw [HGG.out]; exact Nat.le_refl _) 1 _
theorem sl_getCell (b : Nat) (s : ByteArray) (hs : s.size ≤ maxLen) (e : Int) (w : World) (h : RdAt w b s e) :
    Calls Try.prog 72 #[.pointer (some ⟨b, 0, none⟩)] w fun r w' => r = .returned (.agg #[.string (rdCe s e).1.1, .string (rdCe s e).1.2.1, .int .u32 ((rdCe s e).1.2.2.1 : Nat), .int .u32 ((rdCe s e).1.2.2.2 : Nat)]) ∧ RdAt w' b (rdCe s e).2.1 (rdCe s e).2.2 ∧ Ch b w w' := by
  have h1 := (rdKey_size s e).2
  have c1 := fun w1 h1' => Lib.hid (sl_getKey b s hs e w1 h1')
  obtain ⟨q, hq⟩ : ∃ q, q = rdCe s e := ⟨_, rfl⟩
  rw [← hq]
  unfold rdCe at hq
  generalize rdKey s e = p at *
  obtain ⟨k, s1, e1⟩ := p
  simp only at h1 c1 hq
  have c2 := fun w1 h1' => Lib.hid (oct_rdone b s1 (Nat.le_trans h1 hs) e1 w1 h1')
  have h2 := rdNum_size s1 e1 1
  have h2l := rdNum_lt s1 e1 1
  generalize rdNum s1 e1 1 = p at *
  obtain ⟨m, s2, e2⟩ := p
  simp only at h2 h2l c2 hq
  have hlt := h.lt
  have HG := Lib.hid (heap_alloc_last w (.cells #[.string { data := #[] }, .string { data := #[] }, .int .u32 0, .int .u32 0] 42))
  have H0 := Lib.hid (h.gr ((Gr.refl w).alloc (.cells #[.string { data := #[] }, .string { data := #[] }, .int .u32 0, .int .u32 0] 42)))
  have HC0 : Hid (Ch b w (w.alloc (.cells #[.string { data := #[] }, .string { data := #[] }, .int .u32 0, .int .u32 0] 42))) := ((Gr.refl w).alloc _).ch b
  clear h
  by_cases hm : m = 0
  · subst hm
    rw [if_pos rfl] at hq
    have c3 := fun w1 h1' => Lib.hid (oct_rdtwo b s2 (by omega) e2 w1 h1')
    have h3 := rdNum_size s2 e2 2
    have h3l := rdNum_lt s2 e2 2
    generalize rdNum s2 e2 2 = p at *
    obtain ⟨n, s3, e3⟩ := p
    simp only at h3 h3l c3 hq
    have c4 := fun w1 h1' => Lib.hid (oct_take b s3 (by omega) e3 (n : Nat) w1 h1')
    generalize rdTake s3 e3 n = p at *
    obtain ⟨v, s4, e4⟩ := p
    simp only at c4 hq
    have HQ := Lib.hid hq
    clear hq
    have e00 : ((0 : Nat) : Int) = 0 := rfl
    simp only [e00] at c2
    go_enter Try.func72, Try.ntmps72
    go_wp2_with (fail)
    generalize w.alloc (.cells #[.string { data := #[] }, .string { data := #[] }, .int .u32 0, .int .u32 0] 42) = W at *
    have hgb : w.heap.size ≠ b := by omega
    obtain ⟨g, hgg⟩ : ∃ g, g = w.heap.size := ⟨_, rfl⟩
    have HGG := Lib.hid hgg
    rw [← hgg] at HG hlt hgb ⊢
    clear hgg
    go_wp2_with (go_at_call 79; refine (c1 _ H0.out).out.mono ?_; clear c1; rintro r v1 ⟨rfl, hr, hc⟩; have HR := Lib.hid (And.intro hr (And.intro (HC0.out.trans hc) ((hc.block g (lt_of_row HG.out) hgb).trans HG.out))); clear hr hc)
    have HS : Hid (RdAt (v1.alloc (.cells #[.string k, .string { data := #[] }, .int .u32 0, .int .u32 0] 42)) b s1 e1 ∧ Ch b w (v1.alloc (.cells #[.string k, .string { data := #[] }, .int .u32 0, .int .u32 0] 42)) ∧ (v1.alloc (.cells #[.string k, .string { data := #[] }, .int .u32 0, .int .u32 0] 42)).heap[g]? = some (.cells #[.string { data := #[] }, .string { data := #[] }, .int .u32 0, .int .u32 0] 42 (0, 0)) ∧ (v1.alloc (.cells #[.string k, .string { data := #[] }, .int .u32 0, .int .u32 0] 42)).heap[v1.heap.size]? = some (.cells #[.string k, .string { data := #[] }, .int .u32 0, .int .u32 0] 42 (0, 0))) := ⟨HR.out.1.gr ((Gr.refl v1).alloc _), HR.out.2.1.alloc _, (((Gr.refl v1).alloc _).block (lt_of_row HR.out.2.2)).trans HR.out.2.2, heap_alloc_last v1 _⟩
    have hcb : v1.heap.size ≠ b := by have := HR.out.1.lt; omega
    have hcg : v1.heap.size ≠ g := by have := lt_of_row HR.out.2.2; omega
    have hcw : w.heap.size ≤ v1.heap.size := HR.out.2.1.size
    clear HR HG H0 HC0
    generalize v1.alloc (.cells #[.string k, .string { data := #[] }, .int .u32 0, .int .u32 0] 42) = W2 at *
    generalize v1.heap.size = cc at *
    go_wp2_with (first
      | (go_at_call 131; refine (c2 _ HS.out.1).out.mono ?_; clear c2; rintro r v2 ⟨rfl, hr, hc⟩; have HS2 := Lib.hid (And.intro hr (And.intro (HS.out.2.1.trans hc) (And.intro ((hc.block g (lt_of_row HS.out.2.2.1) hgb).trans HS.out.2.2.1) ((hc.block cc (lt_of_row HS.out.2.2.2) hcb).trans HS.out.2.2.2)))); clear hr hc)
      | (go_at_call 99; refine (c3 _ HS2.out.1).out.mono ?_; clear c3; rintro r v3 ⟨rfl, hr, hc⟩; have HS3 := Lib.hid (And.intro hr (And.intro (HS2.out.2.1.trans hc) (And.intro ((hc.block g (lt_of_row HS2.out.2.2.1) hgb).trans HS2.out.2.2.1) ((hc.block cc (lt_of_row HS2.out.2.2.2) hcb).trans HS2.out.2.2.2)))); clear hr hc)
      | (go_at_call 132; refine (c4 _ HS3.out.1).out.mono ?_; clear c4; rintro r v4 ⟨rfl, hr, hc⟩; have HS4 := Lib.hid (And.intro hr (And.intro (HS3.out.2.1.trans hc) (And.intro ((hc.block g (lt_of_row HS3.out.2.2.1) hgb).trans HS3.out.2.2.1) ((hc.block cc (lt_of_row HS3.out.2.2.2) hcb).trans HS3.out.2.2.2)))); clear hr hc; have x0 := row_cell HS4.out.2.2.2 0 _ rfl; have y0 := frozen_of_row _ _ 0 _ _ HS4.out.2.2.2; have z0 := row_cell HS4.out.2.2.1 0 _ rfl; have f0 := frozen_of_row _ _ 0 _ _ HS4.out.2.2.1; have x1 := row_cell HS4.out.2.2.2 1 _ rfl; have y1 := frozen_of_row _ _ 1 _ _ HS4.out.2.2.2; have z1 := row_cell HS4.out.2.2.1 1 _ rfl; have f1 := frozen_of_row _ _ 1 _ _ HS4.out.2.2.1; have x2 := row_cell HS4.out.2.2.2 2 _ rfl; have y2 := frozen_of_row _ _ 2 _ _ HS4.out.2.2.2; have z2 := row_cell HS4.out.2.2.1 2 _ rfl; have f2 := frozen_of_row _ _ 2 _ _ HS4.out.2.2.1; have x3 := row_cell HS4.out.2.2.2 3 _ rfl; have y3 := frozen_of_row _ _ 3 _ _ HS4.out.2.2.2; have z3 := row_cell HS4.out.2.2.1 3 _ rfl; have f3 := frozen_of_row _ _ 3 _ _ HS4.out.2.2.1))
    refine bodyPost_ret (v := .agg #[.string k, .string v, .int .u32 0, .int .u32 0]) (results_cell_row rfl _ _ g _ #[.string k, .string v, .int .u32 0, .int .u32 0] (0, 0) (.struct _) rfl (heap_setCell_same _ _ 3 _ _ _ (heap_setCell_same _ _ 2 _ _ _ (heap_setCell_same _ _ 1 _ _ _ (heap_setCell_same _ _ 0 _ _ _ ((Below.heap_setCell _ _ _ _ (by show g ≠ cc; omega)).trans HS4.out.2.2.1))))) Try.underlying42 rfl (by kernel_rfl)) rfl ⟨?_, ?_, ?_⟩
    · rw [HQ.out]; rfl
    · rw [HQ.out]; exact HS4.out.1.of_block ((Below.heap_setCell _ _ _ _ (by show b ≠ g; omega)).trans ((Below.heap_setCell _ _ _ _ (by show b ≠ g; omega)).trans ((Below.heap_setCell _ _ _ _ (by show b ≠ g; omega)).trans ((Below.heap_setCell _ _ _ _ (by show b ≠ g; omega)).trans (Below.heap_setCell _ _ _ _ (by show b ≠ cc; omega))))))
    · exact (((((HS4.out.2.1.setFar hcw 1 _).setFar (by rw [HGG.out]; exact Nat.le_refl _) 0 _).setFar (by rw [HGG.out]; exact Nat.le_refl _) 1 _).setFar (by rw [HGG.out]; exact Nat.le_refl _) 2 _).setFar (by rw [HGG.out]; exact Nat.le_refl _) 3 _)
  · rw [if_neg hm] at hq
    by_cases hm1 : m = 1
    · subst hm1
      rw [if_pos rfl] at hq
      have c3 := fun w1 h1' => Lib.hid (oct_rdfour b s2 (by omega) e2 w1 h1')
      have h3 := rdNum_size s2 e2 4
      have h3l := rdNum_lt s2 e2 4
      generalize rdNum s2 e2 4 = p at *
      obtain ⟨c, s3, e3⟩ := p
      simp only at h3 h3l c3 hq
      have c4 := fun w1 h1' => Lib.hid (oct_rdfour b s3 (by omega) e3 w1 h1')
      have h4l := rdNum_lt s3 e3 4
      generalize rdNum s3 e3 4 = p at *
      obtain ⟨l, s4, e4⟩ := p
      simp only at h4l c4 hq
      have e11 : ((1 : Nat) : Int) = 1 := rfl
      simp only [e11] at c2
      clear hm e11
      by_cases hc0 : c = 0
      · subst hc0
        rw [if_pos rfl] at hq
        have HQ := Lib.hid hq
        clear hq
        have e00 : ((0 : Nat) : Int) = 0 := rfl
        simp only [e00] at c3
        go_enter Try.func72, Try.ntmps72
        go_wp2_with (fail)
        generalize w.alloc (.cells #[.string { data := #[] }, .string { data := #[] }, .int .u32 0, .int .u32 0] 42) = W at *
        have hgb : w.heap.size ≠ b := by omega
        obtain ⟨g, hgg⟩ : ∃ g, g = w.heap.size := ⟨_, rfl⟩
        have HGG := Lib.hid hgg
        rw [← hgg] at HG hlt hgb ⊢
        clear hgg
        go_wp2_with (go_at_call 79; refine (c1 _ H0.out).out.mono ?_; clear c1; rintro r v1 ⟨rfl, hr, hc⟩; have HR := Lib.hid (And.intro hr (And.intro (HC0.out.trans hc) ((hc.block g (lt_of_row HG.out) hgb).trans HG.out))); clear hr hc)
        have HS : Hid (RdAt (v1.alloc (.cells #[.string k, .string { data := #[] }, .int .u32 0, .int .u32 0] 42)) b s1 e1 ∧ Ch b w (v1.alloc (.cells #[.string k, .string { data := #[] }, .int .u32 0, .int .u32 0] 42)) ∧ (v1.alloc (.cells #[.string k, .string { data := #[] }, .int .u32 0, .int .u32 0] 42)).heap[g]? = some (.cells #[.string { data := #[] }, .string { data := #[] }, .int .u32 0, .int .u32 0] 42 (0, 0)) ∧ (v1.alloc (.cells #[.string k, .string { data := #[] }, .int .u32 0, .int .u32 0] 42)).heap[v1.heap.size]? = some (.cells #[.string k, .string { data := #[] }, .int .u32 0, .int .u32 0] 42 (0, 0))) := ⟨HR.out.1.gr ((Gr.refl v1).alloc _), HR.out.2.1.alloc _, (((Gr.refl v1).alloc _).block (lt_of_row HR.out.2.2)).trans HR.out.2.2, heap_alloc_last v1 _⟩
        have hcb : v1.heap.size ≠ b := by have := HR.out.1.lt; omega
        have hcg : v1.heap.size ≠ g := by have := lt_of_row HR.out.2.2; omega
        have hcw : w.heap.size ≤ v1.heap.size := HR.out.2.1.size
        clear HR HG H0 HC0
        generalize v1.alloc (.cells #[.string k, .string { data := #[] }, .int .u32 0, .int .u32 0] 42) = W2 at *
        generalize v1.heap.size = cc at *
        go_wp2_with (first
          | (go_at_call 131; refine (c2 _ (HS.out.1)).out.mono ?_; clear c2; rintro r v2 ⟨rfl, hr, hc⟩; have HS2 := Lib.hid (And.intro hr (And.intro (HS.out.2.1.trans hc) (And.intro ((hc.block g (lt_of_row HS.out.2.2.1) hgb).trans HS.out.2.2.1) ((hc.block cc (lt_of_row HS.out.2.2.2) hcb).trans HS.out.2.2.2)))); clear hr hc)
          | (go_at_call 80; refine (c3 _ (HS2.out.1)).out.mono ?_; clear c3; rintro r v3 ⟨rfl, hr, hc⟩; have HS3 := Lib.hid (And.intro hr (And.intro (HS2.out.2.1.trans hc) (And.intro ((hc.block g (lt_of_row HS2.out.2.2.1) hgb).trans HS2.out.2.2.1) ((hc.block cc (lt_of_row HS2.out.2.2.2) hcb).trans HS2.out.2.2.2)))); clear hr hc)
          | (go_at_call 80; refine (c4 _ (HS3.out.1)).out.mono ?_; clear c4; rintro r v4 ⟨rfl, hr, hc⟩; have HS4 := Lib.hid (And.intro hr (And.intro (HS3.out.2.1.trans hc) (And.intro ((hc.block g (lt_of_row HS3.out.2.2.1) hgb).trans HS3.out.2.2.1) ((hc.block cc (lt_of_row HS3.out.2.2.2) hcb).trans HS3.out.2.2.2)))); clear hr hc; have x0 := row_cell HS4.out.2.2.2 0 _ rfl; have y0 := frozen_of_row _ _ 0 _ _ HS4.out.2.2.2; have z0 := row_cell HS4.out.2.2.1 0 _ rfl; have f0 := frozen_of_row _ _ 0 _ _ HS4.out.2.2.1; have x1 := row_cell HS4.out.2.2.2 1 _ rfl; have y1 := frozen_of_row _ _ 1 _ _ HS4.out.2.2.2; have z1 := row_cell HS4.out.2.2.1 1 _ rfl; have f1 := frozen_of_row _ _ 1 _ _ HS4.out.2.2.1; have x2 := row_cell HS4.out.2.2.2 2 _ rfl; have y2 := frozen_of_row _ _ 2 _ _ HS4.out.2.2.2; have z2 := row_cell HS4.out.2.2.1 2 _ rfl; have f2 := frozen_of_row _ _ 2 _ _ HS4.out.2.2.1; have x3 := row_cell HS4.out.2.2.2 3 _ rfl; have y3 := frozen_of_row _ _ 3 _ _ HS4.out.2.2.2; have z3 := row_cell HS4.out.2.2.1 3 _ rfl; have f3 := frozen_of_row _ _ 3 _ _ HS4.out.2.2.1)
          | (go_at_call 133; refine (oct_fail b s4 e4 4 _ (HS4.out.1.of_block ((Below.heap_setCell _ _ _ _ (by show b ≠ cc; omega)).trans (Below.heap_setCell _ _ _ _ (by show b ≠ cc; omega))))).mono ?_; rintro r v5 ⟨rfl, hr, hc⟩; have HS5 := Lib.hid (And.intro hr (And.intro (((HS4.out.2.1.setFar hcw 2 _).setFar hcw 3 _).trans hc) (And.intro ((hc.block g (by rw [setCell_size, setCell_size]; exact lt_of_row HS4.out.2.2.1) hgb).trans ((Below.heap_setCell _ _ _ _ (by show g ≠ cc; omega)).trans ((Below.heap_setCell _ _ _ _ (by show g ≠ cc; omega)).trans HS4.out.2.2.1))) ((hc.block cc (by rw [setCell_size, setCell_size]; exact lt_of_row HS4.out.2.2.2) hcb).trans (heap_setCell_same _ _ 3 _ _ _ (heap_setCell_same _ _ 2 _ _ _ HS4.out.2.2.2)))))); clear hr hc x0 y0 z0 f0 x1 y1 z1 f1 x2 y2 z2 f2 x3 y3 z3 f3; have x0 := row_cell HS5.out.2.2.2 0 _ rfl; have y0 := frozen_of_row _ _ 0 _ _ HS5.out.2.2.2; have z0 := row_cell HS5.out.2.2.1 0 _ rfl; have f0 := frozen_of_row _ _ 0 _ _ HS5.out.2.2.1; have x1 := row_cell HS5.out.2.2.2 1 _ rfl; have y1 := frozen_of_row _ _ 1 _ _ HS5.out.2.2.2; have z1 := row_cell HS5.out.2.2.1 1 _ rfl; have f1 := frozen_of_row _ _ 1 _ _ HS5.out.2.2.1; have x2 := row_cell HS5.out.2.2.2 2 _ rfl; have y2 := frozen_of_row _ _ 2 _ _ HS5.out.2.2.2; have z2 := row_cell HS5.out.2.2.1 2 _ rfl; have f2 := frozen_of_row _ _ 2 _ _ HS5.out.2.2.1; have x3 := row_cell HS5.out.2.2.2 3 _ rfl; have y3 := frozen_of_row _ _ 3 _ _ HS5.out.2.2.2; have z3 := row_cell HS5.out.2.2.1 3 _ rfl; have f3 := frozen_of_row _ _ 3 _ _ HS5.out.2.2.1))
        refine bodyPost_ret (v := .agg #[.string k, .string { data := #[] }, .int .u32 0, .int .u32 (l : Nat)]) (results_cell_row rfl _ _ g _ #[.string k, .string { data := #[] }, .int .u32 0, .int .u32 (l : Nat)] (0, 0) (.struct _) rfl (heap_setCell_same _ _ 3 _ _ _ (heap_setCell_same _ _ 2 _ _ _ (heap_setCell_same _ _ 1 _ _ _ (heap_setCell_same _ _ 0 _ _ _ HS5.out.2.2.1)))) Try.underlying42 rfl (by kernel_rfl)) rfl ⟨?_, ?_, ?_⟩
        · rw [HQ.out]; rfl
        · rw [HQ.out]; exact HS5.out.1.of_block ((Below.heap_setCell _ _ _ _ (by show b ≠ g; omega)).trans ((Below.heap_setCell _ _ _ _ (by show b ≠ g; omega)).trans ((Below.heap_setCell _ _ _ _ (by show b ≠ g; omega)).trans (Below.heap_setCell _ _ _ _ (by show b ≠ g; omega)))))
        · exact ((((HS5.out.2.1.setFar (by rw [HGG.out]; exact Nat.le_refl _) 0 _).setFar (by rw [HGG.out]; exact Nat.le_refl _) 1 _).setFar (by rw [HGG.out]; exact Nat.le_refl _) 2 _).setFar (by rw [HGG.out]; exact Nat.le_refl _) 3 _)
      · rw [if_neg hc0] at hq
        have HQ := Lib.hid hq
        clear hq
        have hc1 : ¬ (c : Int) = 0 := by omega
        go_enter Try.func72, Try.ntmps72
        go_wp2_with (fail)
        generalize w.alloc (.cells #[.string { data := #[] }, .string { data := #[] }, .int .u32 0, .int .u32 0] 42) = W at *
        have hgb : w.heap.size ≠ b := by omega
        obtain ⟨g, hgg⟩ : ∃ g, g = w.heap.size := ⟨_, rfl⟩
        have HGG := Lib.hid hgg
        rw [← hgg] at HG hlt hgb ⊢
        clear hgg
        go_wp2_with (go_at_call 79; refine (c1 _ H0.out).out.mono ?_; clear c1; rintro r v1 ⟨rfl, hr, hc⟩; have HR := Lib.hid (And.intro hr (And.intro (HC0.out.trans hc) ((hc.block g (lt_of_row HG.out) hgb).trans HG.out))); clear hr hc)
        have HS : Hid (RdAt (v1.alloc (.cells #[.string k, .string { data := #[] }, .int .u32 0, .int .u32 0] 42)) b s1 e1 ∧ Ch b w (v1.alloc (.cells #[.string k, .string { data := #[] }, .int .u32 0, .int .u32 0] 42)) ∧ (v1.alloc (.cells #[.string k, .string { data := #[] }, .int .u32 0, .int .u32 0] 42)).heap[g]? = some (.cells #[.string { data := #[] }, .string { data := #[] }, .int .u32 0, .int .u32 0] 42 (0, 0)) ∧ (v1.alloc (.cells #[.string k, .string { data := #[] }, .int .u32 0, .int .u32 0] 42)).heap[v1.heap.size]? = some (.cells #[.string k, .string { data := #[] }, .int .u32 0, .int .u32 0] 42 (0, 0))) := ⟨HR.out.1.gr ((Gr.refl v1).alloc _), HR.out.2.1.alloc _, (((Gr.refl v1).alloc _).block (lt_of_row HR.out.2.2)).trans HR.out.2.2, heap_alloc_last v1 _⟩
        have hcb : v1.heap.size ≠ b := by have := HR.out.1.lt; omega
        have hcg : v1.heap.size ≠ g := by have := lt_of_row HR.out.2.2; omega
        have hcw : w.heap.size ≤ v1.heap.size := HR.out.2.1.size
        clear HR HG H0 HC0
        generalize v1.alloc (.cells #[.string k, .string { data := #[] }, .int .u32 0, .int .u32 0] 42) = W2 at *
        generalize v1.heap.size = cc at *
        go_wp2_with (first
          | (go_at_call 131; refine (c2 _ (HS.out.1)).out.mono ?_; clear c2; rintro r v2 ⟨rfl, hr, hc⟩; have HS2 := Lib.hid (And.intro hr (And.intro (HS.out.2.1.trans hc) (And.intro ((hc.block g (lt_of_row HS.out.2.2.1) hgb).trans HS.out.2.2.1) ((hc.block cc (lt_of_row HS.out.2.2.2) hcb).trans HS.out.2.2.2)))); clear hr hc)
          | (go_at_call 80; refine (c3 _ (HS2.out.1)).out.mono ?_; clear c3; rintro r v3 ⟨rfl, hr, hc⟩; have HS3 := Lib.hid (And.intro hr (And.intro (HS2.out.2.1.trans hc) (And.intro ((hc.block g (lt_of_row HS2.out.2.2.1) hgb).trans HS2.out.2.2.1) ((hc.block cc (lt_of_row HS2.out.2.2.2) hcb).trans HS2.out.2.2.2)))); clear hr hc)
          | (go_at_call 80; refine (c4 _ (HS3.out.1)).out.mono ?_; clear c4; rintro r v4 ⟨rfl, hr, hc⟩; have HS4 := Lib.hid (And.intro hr (And.intro (HS3.out.2.1.trans hc) (And.intro ((hc.block g (lt_of_row HS3.out.2.2.1) hgb).trans HS3.out.2.2.1) ((hc.block cc (lt_of_row HS3.out.2.2.2) hcb).trans HS3.out.2.2.2)))); clear hr hc; have x0 := row_cell HS4.out.2.2.2 0 _ rfl; have y0 := frozen_of_row _ _ 0 _ _ HS4.out.2.2.2; have z0 := row_cell HS4.out.2.2.1 0 _ rfl; have f0 := frozen_of_row _ _ 0 _ _ HS4.out.2.2.1; have x1 := row_cell HS4.out.2.2.2 1 _ rfl; have y1 := frozen_of_row _ _ 1 _ _ HS4.out.2.2.2; have z1 := row_cell HS4.out.2.2.1 1 _ rfl; have f1 := frozen_of_row _ _ 1 _ _ HS4.out.2.2.1; have x2 := row_cell HS4.out.2.2.2 2 _ rfl; have y2 := frozen_of_row _ _ 2 _ _ HS4.out.2.2.2; have z2 := row_cell HS4.out.2.2.1 2 _ rfl; have f2 := frozen_of_row _ _ 2 _ _ HS4.out.2.2.1; have x3 := row_cell HS4.out.2.2.2 3 _ rfl; have y3 := frozen_of_row _ _ 3 _ _ HS4.out.2.2.2; have z3 := row_cell HS4.out.2.2.1 3 _ rfl; have f3 := frozen_of_row _ _ 3 _ _ HS4.out.2.2.1))
        refine bodyPost_ret (v := .agg #[.string k, .string { data := #[] }, .int .u32 (c : Nat), .int .u32 (l : Nat)]) (results_cell_row rfl _ _ g _ #[.string k, .string { data := #[] }, .int .u32 (c : Nat), .int .u32 (l : Nat)] (0, 0) (.struct _) rfl (heap_setCell_same _ _ 3 _ _ _ (heap_setCell_same _ _ 2 _ _ _ (heap_setCell_same _ _ 1 _ _ _ (heap_setCell_same _ _ 0 _ _ _ ((Below.heap_setCell _ _ _ _ (by show g ≠ cc; omega)).trans ((Below.heap_setCell _ _ _ _ (by show g ≠ cc; omega)).trans HS4.out.2.2.1)))))) Try.underlying42 rfl (by kernel_rfl)) rfl ⟨?_, ?_, ?_⟩
        · rw [HQ.out]; rfl
        · rw [HQ.out]; exact HS4.out.1.of_block ((Below.heap_setCell _ _ _ _ (by show b ≠ g; omega)).trans ((Below.heap_setCell _ _ _ _ (by show b ≠ g; omega)).trans ((Below.heap_setCell _ _ _ _ (by show b ≠ g; omega)).trans ((Below.heap_setCell _ _ _ _ (by show b ≠ g; omega)).trans ((Below.heap_setCell _ _ _ _ (by show b ≠ cc; omega)).trans (Below.heap_setCell _ _ _ _ (by show b ≠ cc; omega)))))))
        · exact ((((((HS4.out.2.1.setFar hcw 2 _).setFar hcw 3 _).setFar (by rw [HGG.out]; exact Nat.le_refl _) 0 _).setFar (by rw [HGG.out]; exact Nat.le_refl _) 1 _).setFar (by rw [HGG.out]; exact Nat.le_refl _) 2 _).setFar (by rw [HGG.out]; exact Nat.le_refl _) 3 _)
    · rw [if_neg hm1] at hq
      have HQ := Lib.hid hq
      clear hq
      have hm2 : ¬ (m : Int) = 0 := by omega
      have hm3 : ¬ (m : Int) = 1 := by omega
      have cF := fun w1 h1' => Lib.hid (oct_fail b s2 e2 4 w1 h1')
      go_enter Try.func72, Try.ntmps72
      go_wp2_with (fail)
      generalize w.alloc (.cells #[.string { data := #[] }, .string { data := #[] }, .int .u32 0, .int .u32 0] 42) = W at *
      have hgb : w.heap.size ≠ b := by omega
      obtain ⟨g, hgg⟩ : ∃ g, g = w.heap.size := ⟨_, rfl⟩
      have HGG := Lib.hid hgg
      rw [← hgg] at HG hlt hgb ⊢
      clear hgg
      go_wp2_with (go_at_call 79; refine (c1 _ H0.out).out.mono ?_; clear c1; rintro r v1 ⟨rfl, hr, hc⟩; have HR := Lib.hid (And.intro hr (And.intro (HC0.out.trans hc) ((hc.block g (lt_of_row HG.out) hgb).trans HG.out))); clear hr hc)
      have HS : Hid (RdAt (v1.alloc (.cells #[.string k, .string { data := #[] }, .int .u32 0, .int .u32 0] 42)) b s1 e1 ∧ Ch b w (v1.alloc (.cells #[.string k, .string { data := #[] }, .int .u32 0, .int .u32 0] 42)) ∧ (v1.alloc (.cells #[.string k, .string { data := #[] }, .int .u32 0, .int .u32 0] 42)).heap[g]? = some (.cells #[.string { data := #[] }, .string { data := #[] }, .int .u32 0, .int .u32 0] 42 (0, 0)) ∧ (v1.alloc (.cells #[.string k, .string { data := #[] }, .int .u32 0, .int .u32 0] 42)).heap[v1.heap.size]? = some (.cells #[.string k, .string { data := #[] }, .int .u32 0, .int .u32 0] 42 (0, 0))) := ⟨HR.out.1.gr ((Gr.refl v1).alloc _), HR.out.2.1.alloc _, (((Gr.refl v1).alloc _).block (lt_of_row HR.out.2.2)).trans HR.out.2.2, heap_alloc_last v1 _⟩
      have hcb : v1.heap.size ≠ b := by have := HR.out.1.lt; omega
      have hcg : v1.heap.size ≠ g := by have := lt_of_row HR.out.2.2; omega
      have hcw : w.heap.size ≤ v1.heap.size := HR.out.2.1.size
      clear HR HG H0 HC0
      generalize v1.alloc (.cells #[.string k, .string { data := #[] }, .int .u32 0, .int .u32 0] 42) = W2 at *
      generalize v1.heap.size = cc at *
      go_wp2_with (first
        | (go_at_call 131; refine (c2 _ (HS.out.1)).out.mono ?_; clear c2; rintro r v2 ⟨rfl, hr, hc⟩; have HS2 := Lib.hid (And.intro hr (And.intro (HS.out.2.1.trans hc) (And.intro ((hc.block g (lt_of_row HS.out.2.2.1) hgb).trans HS.out.2.2.1) ((hc.block cc (lt_of_row HS.out.2.2.2) hcb).trans HS.out.2.2.2)))); clear hr hc)
        | (go_at_call 133; refine (cF _ (HS2.out.1)).out.mono ?_; clear cF; rintro r v3 ⟨rfl, hr, hc⟩; have HS3 := Lib.hid (And.intro hr (And.intro (HS2.out.2.1.trans hc) (And.intro ((hc.block g (lt_of_row HS2.out.2.2.1) hgb).trans HS2.out.2.2.1) ((hc.block cc (lt_of_row HS2.out.2.2.2) hcb).trans HS2.out.2.2.2)))); clear hr hc; have x0 := row_cell HS3.out.2.2.2 0 _ rfl; have y0 := frozen_of_row _ _ 0 _ _ HS3.out.2.2.2; have z0 := row_cell HS3.out.2.2.1 0 _ rfl; have f0 := frozen_of_row _ _ 0 _ _ HS3.out.2.2.1; have x1 := row_cell HS3.out.2.2.2 1 _ rfl; have y1 := frozen_of_row _ _ 1 _ _ HS3.out.2.2.2; have z1 := row_cell HS3.out.2.2.1 1 _ rfl; have f1 := frozen_of_row _ _ 1 _ _ HS3.out.2.2.1; have x2 := row_cell HS3.out.2.2.2 2 _ rfl; have y2 := frozen_of_row _ _ 2 _ _ HS3.out.2.2.2; have z2 := row_cell HS3.out.2.2.1 2 _ rfl; have f2 := frozen_of_row _ _ 2 _ _ HS3.out.2.2.1; have x3 := row_cell HS3.out.2.2.2 3 _ rfl; have y3 := frozen_of_row _ _ 3 _ _ HS3.out.2.2.2; have z3 := row_cell HS3.out.2.2.1 3 _ rfl; have f3 := frozen_of_row _ _ 3 _ _ HS3.out.2.2.1))
      refine bodyPost_ret (v := .agg #[.string k, .string { data := #[] }, .int .u32 0, .int .u32 0]) (results_cell_row rfl _ _ g _ #[.string k, .string { data := #[] }, .int .u32 0, .int .u32 0] (0, 0) (.struct _) rfl (heap_setCell_same _ _ 3 _ _ _ (heap_setCell_same _ _ 2 _ _ _ (heap_setCell_same _ _ 1 _ _ _ (heap_setCell_same _ _ 0 _ _ _ HS3.out.2.2.1)))) Try.underlying42 rfl (by kernel_rfl)) rfl ⟨?_, ?_, ?_⟩
      · rw [HQ.out]; rfl
      · rw [HQ.out]; exact HS3.out.1.of_block ((Below.heap_setCell _ _ _ _ (by show b ≠ g; omega)).trans ((Below.heap_setCell _ _ _ _ (by show b ≠ g; omega)).trans ((Below.heap_setCell _ _ _ _ (by show b ≠ g; omega)).trans (Below.heap_setCell _ _ _ _ (by show b ≠ g; omega)))))
      · exact ((((HS3.out.2.1.setFar (by rw [HGG.out]; exact Nat.le_refl _) 0 _).setFar (by rw [HGG.out]; exact Nat.le_refl _) 1 _).setFar (by rw [HGG.out]; exact Nat.le_refl _) 2 _).setFar (by rw [HGG.out]; exact Nat.le_refl _) 3 _)
end Go.Proofs.Ytbkcfadbjebbdaa
