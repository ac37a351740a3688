/- The law SchemaBounds, walked. -/
import Derived.Test.YtckklikfikeokaaDoorSchW3
import Derived.Test.YtckklikfikeokaaDoorOrdRKey
import Derived.Test.YtckklikfikeokaaDoorOrdHp
namespace Go.Proofs.YtckklikfikeokaaDoor
open Go.RowKit
set_option linter.unusedVariables false
set_option linter.unusedSimpArgs false
set_option maxRecDepth 100000
set_option maxHeartbeats 4000000
theorem aftB_two (r : List UInt8) : ∃ a, aftB (2 :: r) = some a := by
  generalize hn : r.length = n
  induction n generalizing r with
  | zero => rw [List.length_eq_zero_iff.1 hn]; exact ⟨_, aftB_ne [] 2 (by decide)⟩
  | succ n ih =>
    have hne : r ≠ [] := by intro e; subst e; simp at hn
    obtain ⟨q, c, rfl⟩ : ∃ q c, r = q ++ [c] := ⟨r.dropLast, r.getLast hne, (List.dropLast_concat_getLast hne).symm⟩
    have hq : q.length = n := by simpa using hn
    by_cases hc : c = 255
    · subst hc
      rw [← List.cons_append, aftB_255]
      exact ih q hq
    · exact ⟨_, by rw [← List.cons_append]; exact aftB_ne (2 :: q) c hc⟩
theorem sch_in (K0 r K : List UInt8) (h : K0 = 2 :: r) : ∃ a, aftB K0 = some a ∧ a ≠ [] ∧ K0 < a ∧ (¬ K < K0 ∧ K < a ↔ K0 <+: K) := by
  obtain ⟨a, ha⟩ := aftB_two r
  rw [← h] at ha
  have h1 := aft_in K0.length K0 K 0 rfl
  have h2 := aft_in K0.length K0 K0 0 rfl
  rw [ha, List.replicate_zero, List.append_nil] at h1 h2
  have h3 := (h2.2 (List.prefix_refl _)).2
  refine ⟨a, ha, ?_, h3, h1⟩
  rintro rfl
  simp at h3
theorem or_infoR4 : (Tryd.prog.info? 27).map (fun i => (i.zero, i.size, i.bytes)) = some (some (.agg #[.bool false, .int .u64 0, .string { data := #[] }]), 3, 32) := by kernel_rfl
theorem walk_SchemaBounds_ (S K : List UInt8) (A : Option Addr) (cap : Nat) (l : List Pa) (hS : S.length ≤ maxLen) (hK : K.length ≤ maxLen) (hcap : l.length ≤ cap) (hcm : cap ≤ maxLen) (hok : ∀ p ∈ l, paOk p) (w : World) (hs : SliceAt w A 3 paCell l) (hml : ∃ m, w.cell? ⟨0, 0, none⟩ = some (.int .i64 m)) :
    Calls Tryd.prog 3 #[.string (B S), .slice A l.length cap, .string (B K)] w fun e w' => e = .returned (.bool true) ∧ Gr w w' := by
  unfold maxLen at hS hK hcm
  have cA := Lib.hid (law18_awake w hml)
  have cL2 : ∀ (g : Nat) (w2 : World), w2.heap[g]? = some (.cells #[.string (B S), .string (B K)] 9 (0, 0)) → Hid (Calls Tryd.prog 9 #[.slice (some ⟨g, 0, none⟩) 2 2] w2 fun r w' => r = .returned (.bool (shortB [B S, B K])) ∧ Gr w2 w') :=
    fun g w2 hg => law18_light (some ⟨g, 0, none⟩) 2 [B S, B K] (by simp) (by decide) w2 ((Own.lit (base := 0) (k := 1) (enc := strCell) (xs := [B S, B K]) hg (by omega) rfl rfl (by show 2 ≤ maxLen; decide)).slice (fun _ => rfl))
  by_cases h5 : 5 < l.length
  · have h5' : (5 : Int) < ((l.length : Nat) : Int) := by omega
    go_enter Tryd.func3, Tryd.ntmps3
    go_wp2_with (go_at_call 8; refine cA.out.mono ?_; clear cA; rintro r v1 ⟨rfl, hg⟩; have HG1 := Lib.hid hg; clear hg)
    go_ret
    exact ⟨rfl, HG1.out⟩
  have h5' : ¬ (5 : Int) < ((l.length : Nat) : Int) := by omega
  have HX := Lib.hid (And.intro hs hml)
  have HOK := Lib.hid hok
  clear hs hml hok
  cases hsh : shortB [B S, B K] with
  | false =>
    rw [hsh] at cL2
    clear hsh
    go_enter Tryd.func3, Tryd.ntmps3
    go_wp2_with (first
      | (go_at_call 8; refine cA.out.mono ?_; clear cA; rintro r v1 ⟨rfl, hg⟩; have HG1 := Lib.hid hg; clear hg; have HN := Lib.hid (heap_alloc_last v1 (.cells #[.string (B S), .string (B K)] 9)))
      | (go_at_call 9; refine (cL2 _ _ HN.out).out.mono ?_; clear cL2; rintro r v2 ⟨rfl, hg⟩; have HG2 := Lib.hid ((HG1.out.alloc _).trans hg); clear hg))
    go_ret
    exact ⟨rfl, HG2.out⟩
  | true =>
    rw [hsh] at cL2
    have hsz : (B S).size ≤ 400 ∧ (B K).size ≤ 400 := by
      have h := List.all_eq_true.1 hsh
      have h1 := h (B S) (by simp)
      have h2 := h (B K) (by simp)
      simp only [decide_eq_true_eq] at h1 h2
      exact ⟨h1, h2⟩
    rw [B_size, B_size] at hsz
    clear hsh
    have cS := fun w1 => Lib.hid (r4_str (B S) w1)
    obtain ⟨ii, hii, hz0, hz1, hz2⟩ := info_parts or_infoR4
    have HL : Hid (∀ (w2 : World) (g : Nat), w.heap.size ≤ g → w2.heap[g]? = some (.cells #[.bool true, .int .u64 0, .string (B S)] 27 (0, 0)) → Own w2 w.heap.size 27 3 paCell (some ⟨g, 0, none⟩) 1 [((true, 0, B S) : Pa)]) :=
      fun w2 g hb hg => Own.lit (xs := [((true, 0, B S) : Pa)]) hg hb rfl rfl (by show 1 ≤ maxLen; decide)
    go_enter Tryd.func3, Tryd.ntmps3
    go_wp2_with (first
      | (go_at_call 8; refine cA.out.mono ?_; clear cA; rintro r v1 ⟨rfl, hg⟩; have HG1 := Lib.hid hg; clear hg; have HN := Lib.hid (heap_alloc_last v1 (.cells #[.string (B S), .string (B K)] 9)))
      | (go_at_call 9; refine (cL2 _ _ HN.out).out.mono ?_; clear cL2; rintro r v2 ⟨rfl, hg⟩; have HG2 := Lib.hid ((HG1.out.alloc _).trans hg); clear hg HN)
      | (go_at_call 10; refine (cS _).out.mono ?_; clear cS; rintro r v3 ⟨rfl, hg⟩; have HG3 := Lib.hid (HG2.out.trans hg); clear hg; have HG4 : Hid (Gr w (v3.alloc (.cells #[.bool true, .int .u64 0, .string (B S)] 27))) := HG3.out.alloc _; have HO := Lib.hid (HL.out _ _ HG3.out.size (heap_alloc_last v3 (.cells #[.bool true, .int .u64 0, .string (B S)] 27)))))
    generalize v3.alloc (.cells #[.bool true, .int .u64 0, .string (B S)] 27) = W0 at *
    generalize v3.heap.size = g0 at *
    clear HG1 HG2 HG3 HL
    go_loopw [7, 32] (fun rw_ i wr => ∃ (k : Nat) (A' : Option Addr) (cap' : Nat), k ≤ l.length ∧ i = .int .i64 (k : Nat) ∧ rw_ = .slice A' (k + 1) cap' ∧ Hid (Gr w wr ∧ Own wr w.heap.size 27 3 paCell A' cap' ((true, 0, B S) :: l.take k) ∧ ∀ p ∈ l.take k, p.2.2.size ≤ 400)) (fun _ i _ => l.length - (intOf i).toNat)
    case atStart => exact ⟨0, some ⟨g0, 0, none⟩, 1, by omega, rfl, rfl, HG4.out, HO.out, fun x hx => by simp at hx⟩
    case round =>
      obtain ⟨k, A', cap', hk, rfl, rfl, HR⟩ := hrel
      clear HG4 HO
      by_cases hlt : k < l.length
      · rcases HX.out.1 with h0 | ⟨a, off, rfl, hcell⟩
        · subst h0; simp at hlt
        have hget := List.getElem?_eq_getElem hlt
        have HTK : Hid ((true, 0, B S) :: l.take (k + 1) = ((true, 0, B S) :: l.take k) ++ [l[k]]) := by unfold Hid; rw [List.take_succ_eq_append_getElem hlt]; rfl
        have htk : ∀ x, l[k] = x → x.2.2.size ≤ 400 → ∀ p ∈ l.take (k + 1), p.2.2.size ≤ 400 := by
          intro y hy hf x hx
          rw [List.take_succ_eq_append_getElem hlt] at hx
          rcases List.mem_append.1 hx with hx | hx
          · exact HR.out.2.2 x hx
          · simp only [List.mem_singleton] at hx; subst hx; rw [hy]; exact hf
        have hlk : (((true, 0, B S) :: l.take k : List Pa)).length = k + 1 := by rw [List.length_cons, List.length_take]; omega
        generalize l[k] = x at *
        have HTK2 := Lib.hid (htk x rfl)
        clear htk
        obtain ⟨e0, e1, e2⟩ := x
        have a0 := HR.out.1.cells (hcell k _ hget 0 _ rfl)
        have a1 := HR.out.1.cells (hcell k _ hget 1 _ rfl)
        have a2 := HR.out.1.cells (hcell k _ hget 2 _ rfl)
        simp only [Nat.add_zero] at a0
        clear hcell hget
        have hw0 := heap_alloc_last wr (.cells #[.bool e0, .int .u64 (e1 : Nat), .string e2] 30)
        have HG5 : Hid (Gr w (wr.alloc (.cells #[.bool e0, .int .u64 (e1 : Nat), .string e2] 30))) := HR.out.1.alloc _
        have x2 := row_cell hw0 2 _ rfl
        have HN := Lib.hid (heap_alloc_last (wr.alloc (.cells #[.bool e0, .int .u64 (e1 : Nat), .string e2] 30)) (.cells #[.string e2] 9))
        have HW6 : Hid (Gr (wr.alloc (.cells #[.bool e0, .int .u64 (e1 : Nat), .string e2] 30)) ((wr.alloc (.cells #[.bool e0, .int .u64 (e1 : Nat), .string e2] 30)).alloc (.cells #[.string e2] 9))) := (Gr.refl _).alloc _
        have hgl := lt_of_row hw0
        rw [alloc_size] at HN
        have cL1 : ∀ (g : Nat) (w2 : World), w2.heap[g]? = some (.cells #[.string e2] 9 (0, 0)) → Hid (Calls Tryd.prog 9 #[.slice (some ⟨g, 0, none⟩) 1 1] w2 fun r w' => r = .returned (.bool (shortB [e2])) ∧ Gr w2 w') :=
          fun g w2 hg => law18_light (some ⟨g, 0, none⟩) 1 [e2] (by simp) (by decide) w2 ((Own.lit (base := 0) (k := 1) (enc := strCell) (xs := [e2]) hg (by omega) rfl rfl (by show 1 ≤ maxLen; decide)).slice (fun _ => rfl))
        have hsb : shortB [e2] = decide (e2.size ≤ 400) := by simp [shortB]
        rw [hsb] at cL1
        clear hsb
        by_cases h4 : e2.size ≤ 400
        case neg =>
          have hd : decide (e2.size ≤ 400) = false := by simpa using h4
          rw [hd] at cL1
          clear hd
          go_wp2_with (go_at_call 9; refine (cL1 _ _ HN.out).out.mono ?_; clear cL1; rintro r v5 ⟨rfl, hg⟩; have HG7 := Lib.hid ((HG5.out.trans HW6.out).trans hg); clear hg HN)
          go_ret
          exact ⟨rfl, HG7.out⟩
        have hd : decide (e2.size ≤ 400) = true := by simpa using h4
        rw [hd] at cL1
        clear hd
        have HHW := Lib.hid (And.intro hw0 hgl)
        clear hw0 hgl
        obtain ⟨ys, hys⟩ : ∃ ys, ys = ((true, 0, B S) :: l.take k : List Pa) := ⟨_, rfl⟩
        rw [← hys] at HR HTK hlk
        clear hys
        go_wp2_with (first
          | (go_at_call 9; refine (cL1 _ _ HN.out).out.mono ?_; clear cL1; rintro r v5 ⟨rfl, hg⟩; have HG7 := Lib.hid ((HG5.out.trans HW6.out).trans hg); have hrow := ((HW6.out.trans hg).block HHW.out.2).trans HHW.out.1; have y0 := row_cell hrow 0 _ rfl; have y1 := row_cell hrow 1 _ rfl; have y2 := row_cell hrow 2 _ rfl; have HG9 : Hid (Gr w (v5.alloc (.cells #[.bool e0, .int .u64 (e1 : Nat), .string e2] 27))) := HG7.out.alloc _; have HO9 : Hid (Own (v5.alloc (.cells #[.bool e0, .int .u64 (e1 : Nat), .string e2] 27)) w.heap.size 27 3 paCell A' cap' ys) := HR.out.2.1.gr ((((Gr.refl wr).alloc _).trans (HW6.out.trans hg)).alloc _); clear hg HN)
          | (at_builtin; go_loud (refine wpList_append_lies _ rfl _ _ 29 rfl w.heap.size 27 ii _ 3 32 Tryd.underlying29 hii hz0 hz1 hz2 rfl (by omega) (.slice A' ys.length cap') ys.length (ys.flatMap paCell) (by rw [hlk]; rfl) HO9.out ⟨v5.heap.size, 0, none⟩ 1 1 [.bool e0, .int .u64 (e1 : Nat), .string e2] rfl rfl (World.news_of_block (cs := #[.bool e0, .int .u64 (e1 : Nat), .string e2]) (heap_alloc_last v5 _)) (fun u hu => by simp at hu; rcases hu with rfl | rfl | rfl <;> rfl) (by omega) (show ys.length + 1 ≤ 9223372036854775807 by omega) (show (ys.length + 1) * 32 ≤ 140737488355328 by omega) HG9.out.size _ rfl ?_; intro gg cc v8 hown hgrow hat hlt5)))
        have HT : Hid (Gr w v8 ∧ Own v8 w.heap.size 27 3 paCell (some ⟨gg, 0, none⟩) cc ((true, 0, B S) :: l.take (k + 1)) ∧ ∀ p ∈ l.take (k + 1), p.2.2.size ≤ 400) := by
          refine ⟨HO9.out.grown hgrow HG9.out (Nat.le_refl _), ?_, HTK2.out h4⟩
          rw [HTK.out]
          exact Own.push (e0, e1, e2) hown
        clear hown hgrow hat HO9 HG9
        go_roundw
        case rel => exact ⟨k + 1, _, _, by omega, by go_num, rfl, HT⟩
        case measure => (simp [intOf]; try omega)
      · obtain rfl : k = l.length := by omega
        rw [List.take_length] at HR
        have hokl : ∀ p ∈ l, paOk p ∧ p.2.2.size ≤ 10000 := fun p hp => ⟨HOK.out p hp, by have := HR.out.2.2 p hp; omega⟩
        have hokr : ∀ p ∈ ((true, 0, B S) :: l : List Pa), paOk p ∧ p.2.2.size ≤ 10000 := by
          intro p hp
          rcases List.mem_cons.1 hp with rfl | hp
          · exact ⟨by show (0 : Nat) < _; omega, by show (B S).size ≤ _; rw [B_size]; omega⟩
          · exact hokl p hp
        have hmlR : ∃ m, wr.cell? ⟨0, 0, none⟩ = some (.int .i64 m) := by obtain ⟨m, hm⟩ := HX.out.2; exact ⟨m, HR.out.1.cells hm⟩
        have hln : ((true, 0, B S) :: l : List Pa).length = l.length + 1 := rfl
        have cR : ∀ w1, Gr wr w1 → Hid (Calls Tryd.prog 12 #[.slice A' (l.length + 1) cap'] w1 fun r w' => r = .returned (.tuple #[.string (keyAns ((true, 0, B S) :: l)).1, .int .i64 (keyAns ((true, 0, B S) :: l)).2]) ∧ Gr w1 w') :=
          fun w1 hg => r4_key A' cap' ((true, 0, B S) :: l) (by have := HR.out.2.1.cap_le.1; omega) HR.out.2.1.cap_le.2 hokr w1 ((HR.out.2.1.slice paCell_len).gr hg)
        by_cases hk255 : (keyB ((true, 0, B S) :: l)).length ≤ 255
        case neg =>
          have cU := Lib.hid (sc_under_long (B S) (by rw [B_size]; omega) A cap l (by omega) hcap (by unfold maxLen; omega) hokl hk255 wr hmlR (HX.out.1.gr HR.out.1))
          have hka : keyAns ((true, 0, B S) :: l) = (.empty, 5) := by unfold keyAns; rw [if_pos (by omega)]
          rw [hka] at cR
          clear hokl hokr hmlR hln hk255 hka
          go_wp2_with (first
            | (go_at_call 11; refine cU.out.mono ?_; clear cU; rintro r v4 ⟨rfl, hg⟩; have HG4 := Lib.hid (HR.out.1.trans hg); have HGU := Lib.hid hg; clear hg)
            | (go_at_call 12; refine (cR _ HGU.out).out.mono ?_; clear cR; rintro r v5 ⟨rfl, hg⟩; have HG5 := Lib.hid (HG4.out.trans hg); clear hg)
            | (go_at_call 13; refine (cH _).out.mono ?_; clear cH; rintro r v6 ⟨rfl, rfl⟩))
          go_ret
          exact ⟨rfl, HG5.out⟩
        have cU := Lib.hid (sc_under (B S) (by rw [B_size]; omega) A cap l (by omega) hcap (by unfold maxLen; omega) hokl hk255 wr hmlR (HX.out.1.gr HR.out.1))
        have hka : keyAns ((true, 0, B S) :: l) = (B (keyB ((true, 0, B S) :: l)), 0) := by unfold keyAns; rw [if_neg (by omega)]
        rw [hka] at cR
        obtain ⟨a, ha, hane, hlt2, hin⟩ := sch_in (keyB ((true, 0, B S) :: l)) _ K rfl
        have haa : (aftAns (keyB ((true, 0, B S) :: l))).1 = B a := by unfold aftAns; rw [ha]
        rw [haa] at cU
        generalize keyB ((true, 0, B S) :: l) = K0 at *
        have hem : (B a).toList.isEmpty = false := by
          rw [ByteArray.toList_eq, B_list]
          cases a with
          | nil => exact absurd rfl hane
          | cons x a => rfl
        have b1 : Op.bytesLess (B K0).toList (B a).toList = true := by rw [bl_of, decide_eq_true_iff]; exact hlt2
        have hgt : Hid ((!Op.bytesLess (B a).toList (B K0).toList && !(B a).toList == (B K0).toList) = true) := by
          unfold Hid
          have h1 : ¬ a < K0 := fun h => List.lt_irrefl _ (List.lt_trans h hlt2)
          have h2 : a ≠ K0 := fun h => by rw [h] at hlt2; exact List.lt_irrefl _ hlt2
          rw [bl_of, ByteArray.toList_eq, ByteArray.toList_eq, B_list, B_list]
          simp [h1, h2]
        obtain ⟨x, hx⟩ : ∃ x, Op.bytesLess (B K).toList (B K0).toList = x := ⟨_, rfl⟩
        obtain ⟨y, hy⟩ : ∃ y, Op.bytesLess (B K).toList (B a).toList = y := ⟨_, rfl⟩
        have cH := fun w1 => Lib.hid (or_hasPrefix K K0 (!x && y) (by rw [← hin, ← hx, ← hy, bl_of, bl_of]; simp) w1)
        clear hokl hokr hmlR hln hka ha haa hane hlt2 hin hk255
        generalize B K0 = f0 at *
        generalize B a = t0 at *
        generalize B K = k0 at *
        cases x <;> cases y
        · simp only [Bool.not_true, Bool.not_false, Bool.true_and, Bool.false_and] at cH
          go_wp2_with (first
            | (go_at_call 11; refine cU.out.mono ?_; clear cU; rintro r v4 ⟨rfl, hg⟩; have HG4 := Lib.hid (HR.out.1.trans hg); have HGU := Lib.hid hg; clear hg)
            | (go_at_call 12; refine (cR _ HGU.out).out.mono ?_; clear cR; rintro r v5 ⟨rfl, hg⟩; have HG5 := Lib.hid (HG4.out.trans hg); clear hg)
            | (go_at_call 13; refine (cH _).out.mono ?_; clear cH; rintro r v6 ⟨rfl, rfl⟩))
          go_ret
          exact ⟨ret_bool hgt.out, HG5.out⟩
        · simp only [Bool.not_true, Bool.not_false, Bool.true_and, Bool.false_and] at cH
          go_wp2_with (first
            | (go_at_call 11; refine cU.out.mono ?_; clear cU; rintro r v4 ⟨rfl, hg⟩; have HG4 := Lib.hid (HR.out.1.trans hg); have HGU := Lib.hid hg; clear hg)
            | (go_at_call 12; refine (cR _ HGU.out).out.mono ?_; clear cR; rintro r v5 ⟨rfl, hg⟩; have HG5 := Lib.hid (HG4.out.trans hg); clear hg)
            | (go_at_call 13; refine (cH _).out.mono ?_; clear cH; rintro r v6 ⟨rfl, rfl⟩))
          go_ret
          exact ⟨ret_bool hgt.out, HG5.out⟩
        · simp only [Bool.not_true, Bool.not_false, Bool.true_and, Bool.false_and] at cH
          go_wp2_with (first
            | (go_at_call 11; refine cU.out.mono ?_; clear cU; rintro r v4 ⟨rfl, hg⟩; have HG4 := Lib.hid (HR.out.1.trans hg); have HGU := Lib.hid hg; clear hg)
            | (go_at_call 12; refine (cR _ HGU.out).out.mono ?_; clear cR; rintro r v5 ⟨rfl, hg⟩; have HG5 := Lib.hid (HG4.out.trans hg); clear hg)
            | (go_at_call 13; refine (cH _).out.mono ?_; clear cH; rintro r v6 ⟨rfl, rfl⟩))
          go_ret
          exact ⟨ret_bool hgt.out, HG5.out⟩
        · simp only [Bool.not_true, Bool.not_false, Bool.true_and, Bool.false_and] at cH
          go_wp2_with (first
            | (go_at_call 11; refine cU.out.mono ?_; clear cU; rintro r v4 ⟨rfl, hg⟩; have HG4 := Lib.hid (HR.out.1.trans hg); have HGU := Lib.hid hg; clear hg)
            | (go_at_call 12; refine (cR _ HGU.out).out.mono ?_; clear cR; rintro r v5 ⟨rfl, hg⟩; have HG5 := Lib.hid (HG4.out.trans hg); clear hg)
            | (go_at_call 13; refine (cH _).out.mono ?_; clear cH; rintro r v6 ⟨rfl, rfl⟩))
          go_ret
          exact ⟨ret_bool hgt.out, HG5.out⟩
end Go.Proofs.YtckklikfikeokaaDoor
