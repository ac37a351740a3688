/- The law SlotsBack, walked (printed by slback_gen.py). -/
import Derived.Test.YtbkcfadbjebbdaaSlBackM
namespace Go.Proofs.Ytbkcfadbjebbdaa
open Go.RowKit
set_option linter.unusedVariables false
set_option linter.unusedSimpArgs false
set_option maxRecDepth 100000
set_option maxHeartbeats 4000000
/-- the shape lies in block bs, the cells where they were -/
structure Bs (A : Option Addr) (xs : List Ce) (bs : Nat) (w W : World) : Prop where
  gr : Gr w W
  row : W.heap[bs]? = some (.cells #[.func (.func 71) #[] #[], .func (.func 72) #[] #[], .func (.func 73) #[] #[], .func (.func 74) #[] #[]] 29 (0, 0))
  sl : SliceAt W A 4 ceCell xs
theorem Bs.step {A : Option Addr} {xs : List Ce} {bs : Nat} {w W W' : World} (h : Bs A xs bs w W) (hg : Gr W W') : Bs A xs bs w W' :=
  ⟨h.gr.trans hg, (hg.block (lt_of_row h.row)).trans h.row, h.sl.gr hg⟩
/-- the second half: what is read would be laid so -/
theorem back_tail (D : List UInt8) (hD : D.length ≤ 5000) (count : Int) (hc64 : I64 count) : ∀ (l : List Ce) (e : Int), lfAns D count = (l, e) → (l.length ≤ 4000 ∧ (∀ x ∈ l, ceOk x)) ∧ ((e = 0 ∧ ((slBody (lfErr l) (l.map lfB) = (B D, 0) ∧ D.length ≤ 4072) ∨ (slBody (lfErr l) (l.map lfB) = (.empty, 14) ∧ 4072 < D.length))) ∨ (e ≠ 0 ∧ l = [])) := by
  intro l e h
  rcases rdAns_cases lfB ceCan ceBad (fun x => x.1) D count with ⟨l', h1, h2, h3, h4⟩ | ⟨e', he, h1⟩
  · unfold lfAns at h
    rw [h1] at h
    cases h
    exact ⟨lay_ok (by omega) h3, .inl ⟨rfl, slb_rev h3 h4⟩⟩
  · unfold lfAns at h
    rw [h1] at h
    cases h
    exact ⟨⟨by simp, fun x hx => by simp at hx⟩, .inr ⟨he, rfl⟩⟩
theorem walk_SlotsBack_ (A : Option Addr) (cap : Nat) (xs : List Ce) (hcap : xs.length ≤ cap) (hcm : cap ≤ maxLen) (hu : ∀ x ∈ xs, ceU x) (D : List UInt8) (hDm : D.length ≤ maxLen) (count : Int) (hc64 : I64 count) (w : World) (hs : SliceAt w A 4 ceCell xs) :
    Calls Try.prog 5 #[.slice A xs.length cap, .string (B D), .int .i64 count] w fun e w' => e = .returned (.bool true) ∧ Gr w w' := by
  have cA := fun w1 => Lib.hid (law06_awake w1)
  have cF := fun w1 (h : SliceAt w1 A 4 ceCell xs) => Lib.hid (law_few A cap xs hcap hcm w1 h)
  have hBs : (B D).size = D.length := B_size D
  unfold maxLen at hDm
  have HX := Lib.hid hs
  clear hs
  by_cases hf : fewB xs = true
  case neg =>
    have hf2 : fewB xs = false := by simpa using hf
    rw [hf2] at cF
    clear hf hf2
    go_enter Try.func5, Try.ntmps5
    go_wp2_with (first
      | (go_at_call 12; refine (cA _).out.mono ?_; rintro r v1 ⟨rfl, hg⟩; have HG := Lib.hid hg; clear hg)
      | (go_at_call 13; refine (cF _ (HX.out.gr HG.out)).out.mono ?_; rintro r v2 ⟨rfl, hg⟩; have HG2 := Lib.hid (HG.out.trans hg); clear hg))
    go_ret
    exact ⟨rfl, HG2.out⟩
  rw [hf] at cF
  by_cases hD : D.length ≤ 5000
  case neg =>
    have hD2 : (5000 : Int) < ((D.length : Nat) : Int) := by omega
    clear hf
    go_enter Try.func5, Try.ntmps5
    go_wp2_with (first
      | (go_at_call 12; refine (cA _).out.mono ?_; rintro r v1 ⟨rfl, hg⟩; have HG := Lib.hid hg; clear hg)
      | (go_at_call 13; refine (cF _ (HX.out.gr HG.out)).out.mono ?_; rintro r v2 ⟨rfl, hg⟩; have HG2 := Lib.hid (HG.out.trans hg); clear hg))
    go_ret
    exact ⟨rfl, HG2.out⟩
  have hD2 : ¬ (5000 : Int) < ((D.length : Nat) : Int) := by omega
  obtain ⟨hl, hfew⟩ := fewB_true hf
  have hok : ∀ x ∈ xs, ceOk x := fun x hx => (hfew x hx).ok (hu x hx)
  have c1 := fun w1 (h : SliceAt w1 A 4 ceCell xs) => Lib.hid (lf_body A cap xs hcap hcm (by omega) hok w1 h)
  have c7 := fun w1 (h : SliceAt w1 A 4 ceCell xs) => Lib.hid (lf_sum A cap xs hcap hcm (by omega) hok w1 h)
  have HT : Hid _ := back_tail D hD count hc64
  have c8 := fun w1 => Lib.hid (lf_read D (by omega) count hc64 w1)
  obtain ⟨ans, hans⟩ : ∃ ans, ans = lfAns D count := ⟨_, rfl⟩
  have HT2 := Lib.hid (HT.out ans.1 ans.2 (by rw [← hans]))
  rw [← hans] at c8
  clear hans HT
  obtain ⟨al, ae⟩ := ans
  simp only at c8 HT2
  have HF : Hid ((∃ er, er ≠ 0 ∧ (slBody (lfErr xs) (xs.map lfB)).2 = er) ∨ (∃ E : List UInt8, slBody (lfErr xs) (xs.map lfB) = (B E, 0) ∧ E.length ≤ 4072 ∧ E.length = lfSum xs ∧ lfAns E xs.length = (xs.map ceNorm, 0))) := by
    by_cases he : (slBody (lfErr xs) (xs.map lfB)).2 = 0
    · refine .inr ?_
      have he0 : lfErr xs = 0 := by
        apply Classical.byContradiction; intro h; unfold slBody at he; rw [if_pos h] at he; exact h he
      have hlen : ¬ 4072 < slLen (xs.map lfB) := by
        intro h; unfold slBody at he; rw [he0, if_neg (by simp), if_pos h] at he; cases he
      have h2 := slb_len (xs.map lfB)
      rw [List.length_map] at h2
      refine ⟨_, ?_, ?_, ?_, slb_fwd xs he0 hu⟩
      · unfold slBody; rw [he0, if_neg (by simp), if_neg hlen, List.length_map]; rfl
      · rw [h2]; omega
      · rw [h2]; unfold lfSum slLen; rw [List.map_map]; rfl
    · exact .inl ⟨_, he, rfl⟩
  have HN : Hid (∀ i x, xs[i]? = some x → (xs.map ceNorm)[i]? = some (ceNorm x)) := fun i x h => by rw [List.getElem?_map, h]; rfl
  have hnl : (xs.map ceNorm).length = xs.length := List.length_map ..
  generalize xs.map ceNorm = ys at *
  obtain ⟨bd, hbd⟩ : ∃ bd, bd = slBody (lfErr xs) (xs.map lfB) := ⟨_, rfl⟩
  rw [← hbd] at c1 HF
  generalize lfSum xs = sm at *
  clear hf hfew hok hbd
  go_enter Try.func5, Try.ntmps5
  go_wp2_with (first
    | (go_at_call 12; refine (cA _).out.mono ?_; clear cA; rintro r v1 ⟨rfl, hg⟩; have HG := Lib.hid hg; clear hg)
    | (go_at_call 13; refine (cF _ (HX.out.gr HG.out)).out.mono ?_; clear cF; rintro r v2 ⟨rfl, hg⟩; have HG2 := Lib.hid (HG.out.trans hg); clear hg)
    | (go_at_call 14; refine (sl_leaves _).mono ?_; rintro r v3 ⟨rfl, hg⟩; have HG3 := Lib.hid (HG2.out.trans hg); clear hg))
  have HB : Hid (Bs A xs v3.heap.size w (v3.alloc (.cells #[.func (.func 71) #[] #[], .func (.func 72) #[] #[], .func (.func 73) #[] #[], .func (.func 74) #[] #[]] 29))) := ⟨HG3.out.alloc _, heap_alloc_last v3 _, HX.out.gr (HG3.out.alloc _)⟩
  clear HG HG2 HG3 HX
  generalize v3.alloc (.cells #[.func (.func 71) #[] #[], .func (.func 72) #[] #[], .func (.func 73) #[] #[], .func (.func 74) #[] #[]] 29) = W at *
  generalize v3.heap.size = bs at *
  rcases HF.out with ⟨er, her, hbe⟩ | ⟨E, hbe, hE1, hE2, hE3⟩
  · obtain ⟨bp, be⟩ := bd
    simp only at hbe
    subst hbe
    have hne : (be == 0) = false := by simpa using her
    clear HF HN
    go_wp2_with (go_at_call 16; refine (c1 _ HB.out.sl).out.mono ?_; clear c1; rintro r v4 ⟨rfl, hg⟩; have HB4 := Lib.hid (HB.out.step hg); clear hg; have s0 := row_cell HB4.out.row 0 _ rfl; have s1 := row_cell HB4.out.row 1 _ rfl; have s2 := row_cell HB4.out.row 2 _ rfl; have s3 := row_cell HB4.out.row 3 _ rfl)
    clear HB
    have s0 := row_cell HB4.out.row 0 _ rfl
    have s1 := row_cell HB4.out.row 1 _ rfl
    have s2 := row_cell HB4.out.row 2 _ rfl
    have s3 := row_cell HB4.out.row 3 _ rfl
    have c9 := fun A1 cap1 h1 h2 w1 hs => Lib.hid (lf_body A1 cap1 al h1 h2 HT2.out.1.1 HT2.out.1.2 w1 hs)
    rcases HT2.out.2 with ⟨rfl, ⟨hb, hl2⟩ | ⟨hb, hl2⟩⟩ | ⟨hne2, rfl⟩
    · rw [hb] at c9
      clear HT2 hb
      go_wp2_with (first
        | (go_at_call 30; refine (c8 _).out.mono ?_; clear c8; rintro r v7 ⟨A2, cap2, rfl, hown, hg⟩; have HB7 := Lib.hid (HB4.out.step hg); have HO7 : Hid (SliceAt v7 A2 4 ceCell al ∧ (al).length ≤ cap2 ∧ cap2 ≤ maxLen) := ⟨hown.slice (fun _ => rfl), hown.cap_le.1, hown.cap_le.2⟩; clear hg hown; have s0 := row_cell HB7.out.row 0 _ rfl; have s1 := row_cell HB7.out.row 1 _ rfl; have s2 := row_cell HB7.out.row 2 _ rfl; have s3 := row_cell HB7.out.row 3 _ rfl)
        | (go_at_call 16; refine (c9 A2 cap2 HO7.out.2.1 HO7.out.2.2 _ HO7.out.1).out.mono ?_; clear c9; rintro r v8 ⟨rfl, hg⟩; have HB8 := Lib.hid (HB7.out.step hg); clear hg))
      go_ret
      exact ⟨rfl, HB8.out.gr⟩
    · rw [hb] at c9
      clear HT2 hb
      have hl3 : (4072 : Int) < ((D.length : Nat) : Int) := by omega
      go_wp2_with (first
        | (go_at_call 30; refine (c8 _).out.mono ?_; clear c8; rintro r v7 ⟨A2, cap2, rfl, hown, hg⟩; have HB7 := Lib.hid (HB4.out.step hg); have HO7 : Hid (SliceAt v7 A2 4 ceCell al ∧ (al).length ≤ cap2 ∧ cap2 ≤ maxLen) := ⟨hown.slice (fun _ => rfl), hown.cap_le.1, hown.cap_le.2⟩; clear hg hown; have s0 := row_cell HB7.out.row 0 _ rfl; have s1 := row_cell HB7.out.row 1 _ rfl; have s2 := row_cell HB7.out.row 2 _ rfl; have s3 := row_cell HB7.out.row 3 _ rfl)
        | (go_at_call 16; refine (c9 A2 cap2 HO7.out.2.1 HO7.out.2.2 _ HO7.out.1).out.mono ?_; clear c9; rintro r v8 ⟨rfl, hg⟩; have HB8 := Lib.hid (HB7.out.step hg); clear hg))
      go_ret
      exact ⟨rfl, HB8.out.gr⟩
    · simp only [List.length_nil] at c8 c9
      generalize slBody (lfErr []) (List.map lfB []) = bd3 at *
      have hne3 : (ae != 0) = true := by simpa using hne2
      clear HT2
      go_wp2_with (first
        | (go_at_call 30; refine (c8 _).out.mono ?_; clear c8; rintro r v7 ⟨A2, cap2, rfl, hown, hg⟩; have HB7 := Lib.hid (HB4.out.step hg); have HO7 : Hid (SliceAt v7 A2 4 ceCell ([] : List Ce) ∧ (([] : List Ce)).length ≤ cap2 ∧ cap2 ≤ maxLen) := ⟨hown.slice (fun _ => rfl), Nat.zero_le _, hown.cap_le.2⟩; clear hg hown; have s0 := row_cell HB7.out.row 0 _ rfl; have s1 := row_cell HB7.out.row 1 _ rfl; have s2 := row_cell HB7.out.row 2 _ rfl; have s3 := row_cell HB7.out.row 3 _ rfl)
        | (go_at_call 16; refine (c9 A2 cap2 HO7.out.2.1 HO7.out.2.2 _ HO7.out.1).out.mono ?_; clear c9; rintro r v8 ⟨rfl, hg⟩; have HB8 := Lib.hid (HB7.out.step hg); clear hg))
      go_ret
      exact ⟨rfl, HB8.out.gr⟩
  · subst hbe
    have hES : (B E).size = E.length := B_size E
    have hES2 : E.length = sm := hE2
    have c2 := fun w1 => Lib.hid (lf_read E (by omega) xs.length ⟨by omega, by omega⟩ w1)
    rw [hE3] at c2
    clear HF hE3
    rw [← hES2] at c7
    clear hES2 hE2
    simp only at c2
    rw [hnl] at c2
    have HNL := Lib.hid hnl
    clear hnl
    go_wp2_with (first
      | (go_at_call 16; refine (c1 _ HB.out.sl).out.mono ?_; clear c1; rintro r v4 ⟨rfl, hg⟩; have HB4 := Lib.hid (HB.out.step hg); clear hg; have s0 := row_cell HB4.out.row 0 _ rfl; have s1 := row_cell HB4.out.row 1 _ rfl; have s2 := row_cell HB4.out.row 2 _ rfl; have s3 := row_cell HB4.out.row 3 _ rfl)
      | (go_at_call 30; refine (c2 _).out.mono ?_; clear c2; rintro r v5 ⟨A1, cap1, rfl, hown, hg⟩; have HB5 := Lib.hid (HB4.out.step hg); have HO5 : Hid (SliceAt v5 A1 4 ceCell ys) := hown.slice (fun _ => rfl); clear hg hown; have s0 := row_cell HB5.out.row 0 _ rfl; have s1 := row_cell HB5.out.row 1 _ rfl; have s2 := row_cell HB5.out.row 2 _ rfl; have s3 := row_cell HB5.out.row 3 _ rfl)
      | (go_at_call 21; refine (c7 _ HB5.out.sl).out.mono ?_; clear c7; rintro r v6 ⟨rfl, hg⟩; have HB6 : Hid (Bs A xs bs w v6 ∧ SliceAt v6 A1 4 ceCell ys) := ⟨HB5.out.step hg, HO5.out.gr hg⟩; clear hg))
    clear HB HB4 HB5 HO5
    go_loopw [64] (fun i wr => ∃ k : Nat, k ≤ xs.length ∧ i = .int .i64 (k : Nat) ∧ Hid (Bs A xs bs w wr ∧ SliceAt wr A1 4 ceCell ys)) (fun i _ => xs.length - (intOf i).toNat)
    case atStart => exact ⟨0, by omega, rfl, HB6.out⟩
    case round =>
      obtain ⟨k, hk, rfl, HR⟩ := hrel
      clear HB6
      by_cases hlt : k < xs.length
      · rcases HR.out.1.sl with h0 | ⟨a, off, rfl, hcell⟩
        · subst h0; simp at hlt
        rcases HR.out.2 with h0 | ⟨a1, off1, rfl, hcell1⟩
        · have := HNL.out; rw [h0] at this; simp at this; omega
        have hget := List.getElem?_eq_getElem hlt
        have hget1 := HN.out k _ hget
        generalize xs[k] = x at *
        obtain ⟨e0, e1, e2, e3⟩ := x
        have a0 := hcell k _ hget 0 _ rfl
        have a1' := hcell k _ hget 1 _ rfl
        have a2 := hcell k _ hget 2 _ rfl
        have a3 := hcell k _ hget 3 _ rfl
        have d0 := hcell1 k _ hget1 0 _ rfl
        have d1 := hcell1 k _ hget1 1 _ rfl
        have d2 := hcell1 k _ hget1 2 _ rfl
        have d3 := hcell1 k _ hget1 3 _ rfl
        simp only [Nat.add_zero] at a0 d0
        clear hcell hcell1 hget hget1
        have hlx : (k : Int) < (xs.length : Int) := by omega
        by_cases hc : e2 = 0
        · subst hc
          simp only [ceNorm, if_true] at d0 d1 d2 d3
          have e00 : ((0 : Nat) : Int) = 0 := rfl
          simp only [e00] at a2 d2 d3
          have HTs : Hid (Bs (some ⟨a, off, none⟩) xs bs w (wr.alloc (.cells #[.string e0, .string e1, .int .u32 0, .int .u32 0] 42)).drew ∧ SliceAt (wr.alloc (.cells #[.string e0, .string e1, .int .u32 0, .int .u32 0] 42)).drew (some ⟨a1, off1, none⟩) 4 ceCell ys) := ⟨HR.out.1.step (((Gr.refl wr).alloc _).drew), HR.out.2.gr (((Gr.refl wr).alloc _).drew)⟩
          clear HR
          go_wp2
          have HNB := Lib.hid (heap_alloc_last wr (.cells #[.string e0, .string e1, .int .u32 0, .int .u32 0] 42))
          have HGA : Hid (Gr wr (wr.alloc (.cells #[.string e0, .string e1, .int .u32 0, .int .u32 0] 42))) := (Gr.refl wr).alloc _
          replace d0 := HGA.out.cells d0
          replace d1 := HGA.out.cells d1
          replace d2 := HGA.out.cells d2
          replace d3 := HGA.out.cells d3
          have n0 := row_cell HNB.out 0 _ rfl
          have n1 := row_cell HNB.out 1 _ rfl
          have n2 := row_cell HNB.out 2 _ rfl
          have n3 := row_cell HNB.out 3 _ rfl
          clear HGA HNB a0 a1' a2 a3
          generalize wr.alloc (.cells #[.string e0, .string e1, .int .u32 0, .int .u32 0] 42) = V at *
          generalize wr.heap.size = wb at *
          go_region
          go_wp2
          go_roundw
          case rel => exact ⟨k + 1, by omega, by go_num, HTs.out⟩
          case measure => simp [intOf]; omega
        · simp only [ceNorm] at d0 d1 d2 d3
          rw [if_neg hc] at d3
          have hne : ¬ (e2 : Int) = 0 := by omega
          have HTs : Hid (Bs (some ⟨a, off, none⟩) xs bs w (wr.alloc (.cells #[.string e0, .string e1, .int .u32 (e2 : Nat), .int .u32 (e3 : Nat)] 42)).drew ∧ SliceAt (wr.alloc (.cells #[.string e0, .string e1, .int .u32 (e2 : Nat), .int .u32 (e3 : Nat)] 42)).drew (some ⟨a1, off1, none⟩) 4 ceCell ys) := ⟨HR.out.1.step (((Gr.refl wr).alloc _).drew), HR.out.2.gr (((Gr.refl wr).alloc _).drew)⟩
          clear HR
          go_wp2
          have HNB := Lib.hid (heap_alloc_last wr (.cells #[.string e0, .string e1, .int .u32 (e2 : Nat), .int .u32 (e3 : Nat)] 42))
          have HGA : Hid (Gr wr (wr.alloc (.cells #[.string e0, .string e1, .int .u32 (e2 : Nat), .int .u32 (e3 : Nat)] 42))) := (Gr.refl wr).alloc _
          replace d0 := HGA.out.cells d0
          replace d1 := HGA.out.cells d1
          replace d2 := HGA.out.cells d2
          replace d3 := HGA.out.cells d3
          have n0 := row_cell HNB.out 0 _ rfl
          have n1 := row_cell HNB.out 1 _ rfl
          have n2 := row_cell HNB.out 2 _ rfl
          have n3 := row_cell HNB.out 3 _ rfl
          clear HGA HNB a0 a1' a2 a3
          generalize wr.alloc (.cells #[.string e0, .string e1, .int .u32 (e2 : Nat), .int .u32 (e3 : Nat)] 42) = V at *
          generalize wr.heap.size = wb at *
          go_region
          go_wp2
          go_roundw
          case rel => exact ⟨k + 1, by omega, by go_num, HTs.out⟩
          case measure => simp [intOf]; omega
      · obtain rfl : k = xs.length := by omega
        have HBZ := Lib.hid HR.out.1
        clear HR HN HNL
        have s0 := row_cell HBZ.out.row 0 _ rfl
        have s1 := row_cell HBZ.out.row 1 _ rfl
        have s2 := row_cell HBZ.out.row 2 _ rfl
        have s3 := row_cell HBZ.out.row 3 _ rfl
        have c9 := fun A1 cap1 h1 h2 w1 hs => Lib.hid (lf_body A1 cap1 al h1 h2 HT2.out.1.1 HT2.out.1.2 w1 hs)
        rcases HT2.out.2 with ⟨rfl, ⟨hb, hl2⟩ | ⟨hb, hl2⟩⟩ | ⟨hne2, rfl⟩
        · rw [hb] at c9
          clear HT2 hb
          go_wp2_with (first
            | (go_at_call 30; refine (c8 _).out.mono ?_; clear c8; rintro r v7 ⟨A2, cap2, rfl, hown, hg⟩; have HB7 := Lib.hid (HBZ.out.step hg); have HO7 : Hid (SliceAt v7 A2 4 ceCell al ∧ (al).length ≤ cap2 ∧ cap2 ≤ maxLen) := ⟨hown.slice (fun _ => rfl), hown.cap_le.1, hown.cap_le.2⟩; clear hg hown; have s0 := row_cell HB7.out.row 0 _ rfl; have s1 := row_cell HB7.out.row 1 _ rfl; have s2 := row_cell HB7.out.row 2 _ rfl; have s3 := row_cell HB7.out.row 3 _ rfl)
            | (go_at_call 16; refine (c9 A2 cap2 HO7.out.2.1 HO7.out.2.2 _ HO7.out.1).out.mono ?_; clear c9; rintro r v8 ⟨rfl, hg⟩; have HB8 := Lib.hid (HB7.out.step hg); clear hg))
          go_ret
          exact ⟨rfl, HB8.out.gr⟩
        · rw [hb] at c9
          clear HT2 hb
          have hl3 : (4072 : Int) < ((D.length : Nat) : Int) := by omega
          go_wp2_with (first
            | (go_at_call 30; refine (c8 _).out.mono ?_; clear c8; rintro r v7 ⟨A2, cap2, rfl, hown, hg⟩; have HB7 := Lib.hid (HBZ.out.step hg); have HO7 : Hid (SliceAt v7 A2 4 ceCell al ∧ (al).length ≤ cap2 ∧ cap2 ≤ maxLen) := ⟨hown.slice (fun _ => rfl), hown.cap_le.1, hown.cap_le.2⟩; clear hg hown; have s0 := row_cell HB7.out.row 0 _ rfl; have s1 := row_cell HB7.out.row 1 _ rfl; have s2 := row_cell HB7.out.row 2 _ rfl; have s3 := row_cell HB7.out.row 3 _ rfl)
            | (go_at_call 16; refine (c9 A2 cap2 HO7.out.2.1 HO7.out.2.2 _ HO7.out.1).out.mono ?_; clear c9; rintro r v8 ⟨rfl, hg⟩; have HB8 := Lib.hid (HB7.out.step hg); clear hg))
          go_ret
          exact ⟨rfl, HB8.out.gr⟩
        · simp only [List.length_nil] at c8 c9
          generalize slBody (lfErr []) (List.map lfB []) = bd3 at *
          have hne3 : (ae != 0) = true := by simpa using hne2
          clear HT2
          go_wp2_with (first
            | (go_at_call 30; refine (c8 _).out.mono ?_; clear c8; rintro r v7 ⟨A2, cap2, rfl, hown, hg⟩; have HB7 := Lib.hid (HBZ.out.step hg); have HO7 : Hid (SliceAt v7 A2 4 ceCell ([] : List Ce) ∧ (([] : List Ce)).length ≤ cap2 ∧ cap2 ≤ maxLen) := ⟨hown.slice (fun _ => rfl), Nat.zero_le _, hown.cap_le.2⟩; clear hg hown; have s0 := row_cell HB7.out.row 0 _ rfl; have s1 := row_cell HB7.out.row 1 _ rfl; have s2 := row_cell HB7.out.row 2 _ rfl; have s3 := row_cell HB7.out.row 3 _ rfl)
            | (go_at_call 16; refine (c9 A2 cap2 HO7.out.2.1 HO7.out.2.2 _ HO7.out.1).out.mono ?_; clear c9; rintro r v8 ⟨rfl, hg⟩; have HB8 := Lib.hid (HB7.out.step hg); clear hg))
          go_ret
          exact ⟨rfl, HB8.out.gr⟩
end Go.Proofs.Ytbkcfadbjebbdaa
