/- The law OctetCodecs, walked. -/
import Derived.Test.YtlkkgnidcgochaaCodec3
import Derived.Test.YtlkkgnidcgochaaCodec5
import Derived.Test.YtlkkgnidcgochaaCodec6
import Derived.Test.YtlkkgnidcgochaaOpen
import Derived.Test.YtlkkgnidcgochaaOctAwake
import Derived.Test.YtlkkgnidcgochaaOctRef
import Derived.Deep.CutBlock
import Derived.Deep.DeepCutAuto
import Derived.Deep.LoopGhost
namespace Go.Proofs.Ytlkkgnidcgochaa
open Go.RowKit
set_option linter.unusedVariables false
set_option linter.unusedSimpArgs false
set_option maxRecDepth 100000
set_option maxHeartbeats 4000000
def mkPair (ns : List Nat) (i : Nat) (t : ByteArray) : Pr := (ns.getD i 0, t)
theorem flatP_app (l : List UInt8) (xs : List Pr) (x : Pr) : B (l ++ flatP (xs ++ [x])) = B (l ++ flatP xs) ++ prBytes x := by
  unfold flatP
  rw [List.flatMap_append, ← List.append_assoc]
  simp only [List.flatMap_cons, List.flatMap_nil, List.append_nil]
  rw [← B_app]
  rfl
theorem walk_OctetCodecs_ (A : Option Addr) (cap : Nat) (ns : List Nat) (hcap : ns.length ≤ cap) (hcm : cap ≤ maxLen) (hns : ∀ x ∈ ns, x < 65536)
    (A2 : Option Addr) (cap2 : Nat) (ts : List ByteArray) (hcap2 : ts.length ≤ cap2) (hcm2 : cap2 ≤ maxLen) (hts : ∀ x ∈ ts, x.size ≤ maxLen) (s : ByteArray) (hs : s.size ≤ maxLen) (m : Int) (hm : I64 m) (w : World) (hx : SliceAt w A 1 u16Cell ns) (hy : SliceAt w A2 1 strCell ts) :
    Calls Try.prog 12 #[.slice A ns.length cap, .slice A2 ts.length cap2, .string s, .int .i64 m] w fun e w' => e = .returned (.bool true) ∧ Gr w w' := by
  have hm1 := hcm
  have hm2 := hcm2
  have hs1 := hs
  unfold maxLen at hm1 hm2 hs1
  have hu1 : IntKind.u64.wrap (ts.length : Int) = (ts.length : Int) := wrap_u64_of _ (by unfold U64; omega)
  by_cases h1 : 100 < ts.length
  · go_enter Try.func12, Try.ntmps12
    go_wp2_with (go_at_call 21; refine (law03_awake _).mono ?_; rintro e w1 ⟨rfl, hb⟩)
    all_goals go_ret
    all_goals exact ⟨rfl, hb⟩
  · by_cases h2 : 2000 < s.size
    · go_enter Try.func12, Try.ntmps12
      go_wp2_with (go_at_call 21; refine (law03_awake _).mono ?_; rintro e w1 ⟨rfl, hb⟩)
      all_goals go_ret
      all_goals exact ⟨rfl, hb⟩
    · have HXY := Lib.hid (And.intro hx (And.intro hy (And.intro hts hns)))
      clear hx hy hts hns
      obtain ⟨ii, hi, hz0, hz1, hz2⟩ := info_parts pr_info
      have hz := B_be_size ts.length 4
      have HBE : Hid (B (Oct.be ts.length 4) = B (Oct.be ts.length 4 ++ flatP [])) := by unfold Hid flatP; simp
      have c4 := fun w1 => Lib.hid (ref_big ts.length (by unfold U64; omega) 4 (by omega) w1)
      rw [HBE.out] at c4 hz
      go_enter Try.func12, Try.ntmps12
      go_wp2_with (first
        | (go_at_call 21; refine (law03_awake _).mono ?_; rintro e w1 ⟨rfl, hb1⟩)
        | (go_at_call 53; refine (cod_pairs _).mono ?_; rintro e w2 ⟨rfl, hb2⟩; rw [prC_eq])
        | (go_at_call 23; refine (c4 _).out.mono ?_; rintro e w3 ⟨rfl, hb3⟩))
      have HW : Hid (Gr w w3 ∧ w3.heap[w2.heap.size]? = some (.cells #[.func (.func 66) #[] #[], .func (.func 67) #[] #[]] 83 (0, 0))) := by
        refine ⟨((hb1.trans hb2).alloc _).trans hb3, ?_⟩
        rw [hb3.block (k := w2.heap.size) (by rw [alloc_size]; omega)]
        exact heap_alloc_last _ _
      clear hb1 hb2 hb3 c4 hz
      generalize w2.heap.size = gc at *
      generalize w3 = W at *
      go_loopw [10, 11, 49] (fun x y i wr => ∃ k A' cap' xs, k ≤ ts.length ∧ i = .int .i64 (k : Nat) ∧ x = .slice A' xs.length cap' ∧ y = .string (B (Oct.be ts.length 4 ++ flatP xs)) ∧ Hid (xs.length = k ∧ Gr W wr ∧ Own wr W.heap.size 87 2 prCell A' cap' xs ∧ ∀ x ∈ xs, x.1 < 65536 ∧ x.2.size ≤ 200)) (fun _ _ i _ => ts.length - (intOf i).toNat)
      case atStart => exact ⟨0, none, 0, [], by omega, rfl, rfl, rfl, rfl, Gr.refl _, Own.nil _ _ _ _ _, fun x hx => by cases hx⟩
      case round =>
        obtain ⟨k, A', cap', xs, hk, rfl, rfl, rfl, HR⟩ := hrel
        have hlz := flatP_len xs 200 fun x hx => (HR.out.2.2.2 x hx).2
        have hxk : xs.length = k := HR.out.1
        have hal : (B (Oct.be ts.length 4 ++ flatP xs)).size ≤ 30000 := by rw [B_size, List.length_append, Oct.be_length]; omega
        by_cases hlt : k < ts.length
        · rcases HXY.out.2.1 with h0 | ⟨a2, off2, rfl, hcell2⟩
          · subst h0; simp at hlt
          · have hc2 := (HW.out.1.trans HR.out.2.1).cells (hcell2 k ts[k] (List.getElem?_eq_getElem hlt) 0 _ rfl)
            simp only [Nat.add_zero, Nat.mul_one] at hc2
            have hK2 := Lib.hid hcell2
            clear hcell2
            generalize ts[k] = t at *
            by_cases hbig : 200 < t.size
            · go_wp2
              go_ret
              exact ⟨rfl, HW.out.1.trans HR.out.2.1⟩
            · have HFA := fun x => Lib.hid (flatP_app (Oct.be ts.length 4) xs x)
              generalize B (Oct.be ts.length 4 ++ flatP xs) = all at *
              obtain ⟨n, hn, hcase⟩ : ∃ n : Nat, n < 65536 ∧ ((k < ns.length ∧ ∃ a1 off1, A = some ⟨a1, off1, none⟩ ∧ (wr.alloc (.cells #[.int .u16 0, .string t] 87)).cell? ⟨a1, off1 + k, none⟩ = some (.int .u16 (n : Nat))) ∨ (¬ k < ns.length ∧ n = 0)) := by
                by_cases hin : k < ns.length
                · rcases HXY.out.1 with h0 | ⟨a1, off1, rfl, hcell1⟩
                  · subst h0; simp at hin
                  · have hc1 := (HW.out.1.trans HR.out.2.1).cells (hcell1 k ns[k] (List.getElem?_eq_getElem hin) 0 _ rfl)
                    simp only [Nat.add_zero, Nat.mul_one] at hc1
                    exact ⟨ns[k], HXY.out.2.2.2 ns[k] (List.getElem_mem hin), .inl ⟨hin, a1, off1, rfl, ((Gr.refl wr).alloc _).cells hc1⟩⟩
                · exact ⟨0, by omega, .inr ⟨hin, rfl⟩⟩
              have hg1 : Gr wr (wr.alloc (.cells #[.int .u16 (n : Nat), .string t] 87)) := (Gr.refl wr).alloc _
              have HO := Lib.hid (HR.out.2.2.1.gr (hg1.alloc (.cells #[.int .u16 (n : Nat), .string t] 87)))
              have HN : Hid (((wr.alloc (.cells #[.int .u16 (n : Nat), .string t] 87)).alloc (.cells #[.int .u16 (n : Nat), .string t] 87)).heap[wr.heap.size + 1]? = some (.cells #[.int .u16 (n : Nat), .string t] 87 (0, 0))) := by
                have h := heap_alloc_last (wr.alloc (.cells #[.int .u16 (n : Nat), .string t] 87)) (.cells #[.int .u16 (n : Nat), .string t] 87)
                rw [alloc_size] at h
                exact h
              have HP : Hid (((wr.alloc (.cells #[.int .u16 (n : Nat), .string t] 87)).alloc (.cells #[.int .u16 (n : Nat), .string t] 87)).heap[wr.heap.size]? = some (.cells #[.int .u16 (n : Nat), .string t] 87 (0, 0))) := by
                rw [((Gr.refl _).alloc _ |>.block (k := wr.heap.size) (by rw [alloc_size]; omega))]
                exact heap_alloc_last _ _
              have HZ : Hid (((wr.alloc (.cells #[.int .u16 (n : Nat), .string t] 87)).alloc (.cells #[.int .u16 (n : Nat), .string t] 87)).heap.size = wr.heap.size + 2 ∧ gc < wr.heap.size ∧ W.heap.size ≤ wr.heap.size) := by
                refine ⟨by rw [alloc_size, alloc_size], ?_⟩
                have h0 : gc < W.heap.size := by
                  rcases Nat.lt_or_ge gc W.heap.size with h | h
                  · exact h
                  · have := HW.out.2; rw [Array.getElem?_eq_none h] at this; cases this
                have := HR.out.2.1.size; exact ⟨by omega, this⟩
              have HGw : Hid (Gr W ((wr.alloc (.cells #[.int .u16 (n : Nat), .string t] 87)).alloc (.cells #[.int .u16 (n : Nat), .string t] 87))) := HR.out.2.1.trans (hg1.alloc _)
              have cn : IntKind.u64.wrap (n : Int) = (n : Int) := Oct.u16' n hn
              have hb2 := B_be_size n 2
              have hbt := Oct.text_size t
              have C2 := fun w1 => Lib.hid (ref_big n (by unfold U64; omega) 2 (by omega) w1)
              have C3 := fun w1 => Lib.hid (ref_text t (by omega) w1)
              have HFX := HFA (n, t)
              rw [show prBytes (n, t) = B (Oct.be n 2) ++ Oct.text t from rfl] at HFX
              generalize B (Oct.be n 2) = bn at *
              generalize Oct.text t = bt at *
              clear hg1 HFA
              obtain ⟨nn, hnn⟩ : ∃ x : Nat, x = n := ⟨_, rfl⟩
              have HNN := Lib.hid hnn
              clear hnn
              rcases hcase with ⟨hin, a1, off1, rfl, hc1⟩ | ⟨hin, rfl⟩
              rotate_left
              have e0 : ((0 : Nat) : Int) = 0 := rfl
              simp only [e0] at HO HN HP HZ HGw C2 cn
              all_goals
                go_wp2_with (first
                    | (at_builtin
                       refine wpList_append_lies _ rfl _ _ 85 rfl W.heap.size 87 ii _ 2 24 Try.underlying85 hi hz0 hz1 hz2 rfl (by omega) (.slice A' xs.length cap') xs.length (xs.flatMap prCell) rfl HO.out ⟨wr.heap.size + 1, 0, none⟩ 1 1 (prCell (_, t)) rfl rfl (World.news_of_block (cs := #[_, .string t]) HN.out) (fun u hu => by simp [prCell] at hu; rcases hu with rfl | rfl <;> rfl) (by omega) (by unfold maxLen; omega) (by omega) (by have := HZ.out; omega) _ rfl ?_
                       intro gg cc v5 hown hgrow hat hlt5
                       have HBK := Lib.hid ((hgrow.block wr.heap.size (by have := HZ.out; omega) (fun he => by
                         change some wr.heap.size = (Value.slice A' xs.length cap').ownBlock at he
                         rw [ownOf_eq] at he
                         have := (HR.out.2.2.1.lt he.symm).1; omega)).trans HP.out)
                       obtain ⟨q0, q1, _, _⟩ := At2.of_row HBK.out)
                    | (go_at_call 23; refine (C2 _).out.mono ?_; rintro e w6 ⟨rfl, hb6⟩)
                    | (go_at_call 28; refine (C3 _).out.mono ?_; rintro e w7 ⟨rfl, hb7⟩))
                have HT : Hid ((xs ++ [(nn, t)]).length = k + 1 ∧ Gr W w7 ∧ Own w7 W.heap.size 87 2 prCell (some ⟨gg, 0, none⟩) cc (xs ++ [(nn, t)]) ∧ ∀ x ∈ xs ++ [(nn, t)], x.1 < 65536 ∧ x.2.size ≤ 200) := by
                  rw [HNN.out]
                  refine ⟨by simp [hxk], ((HO.out.grown hgrow HGw.out (Nat.le_refl _)).trans hb6).trans hb7, ((Own.push _ hown).gr hb6).gr hb7, ?_⟩
                  intro x hx
                  rcases List.mem_append.1 hx with hx | hx
                  · exact HR.out.2.2.2 x hx
                  · simp at hx; subst hx; exact ⟨hn, by show t.size ≤ 200; omega⟩
                clear hown hgrow hat hb6 hb7
                go_roundw
                case rel => exact ⟨k + 1, _, _, xs ++ [(nn, t)], by omega, by go_num, by simp [hxk], by rw [HNN.out, HFX.out], HT⟩
                case measure => simp [intOf]; omega
        · obtain rfl : k = ts.length := by omega
          have hcc := HR.out.2.2.1.cap_le
          have HQ : Hid (SliceAt wr A' 2 prCell xs) := HR.out.2.2.1.slice fun _ => rfl
          have HW2 : Hid (Gr w wr ∧ wr.heap[gc]? = some (.cells #[.func (.func 66) #[] #[], .func (.func 67) #[] #[]] 83 (0, 0))) := by
            refine ⟨HW.out.1.trans HR.out.2.1, ?_⟩
            rw [HR.out.2.1.block (k := gc) (by
              rcases Nat.lt_or_ge gc W.heap.size with h | h
              · exact h
              · have := HW.out.2; rw [Array.getElem?_eq_none h] at this; cases this)]
            exact HW.out.2
          have HL := fun w1 h => Lib.hid (cod_list A' cap' xs hcc.1 hcc.2 (by omega) (fun x hx => ⟨(HR.out.2.2.2 x hx).1, by have := (HR.out.2.2.2 x hx).2; omega⟩) w1 h)
          rw [hxk, prC_eq] at HL
          clear HW HR
          generalize wr = W2 at *
          obtain ⟨p0, p1, _, _⟩ := At2.of_row HW2.out.2
          generalize B (Oct.be ts.length 4 ++ flatP xs) = all at *
          rw [hxk]
          go_wp2_with (first
            | (go_at_call 54; refine (HL _ HQ.out).out.mono ?_; rintro e w4 ⟨rfl, hb4⟩))
          have HW3 : Hid (Gr w (w4.alloc (.cells #[.string s, .string all] 9)) ∧ (w4.alloc (.cells #[.string s, .string all] 9)).heap[gc]? = some (.cells #[.func (.func 66) #[] #[], .func (.func 67) #[] #[]] 83 (0, 0)) ∧ (w4.alloc (.cells #[.string s, .string all] 9)).heap[w4.heap.size]? = some (.cells #[.string s, .string all] 9 (0, 0))) := by
            have hl : gc < W2.heap.size := block_lt_of_cell p0
            refine ⟨(HW2.out.1.trans hb4).alloc _, ?_, heap_alloc_last _ _⟩
            rw [((Gr.refl w4).alloc _ |>.block (k := gc) (by have := hb4.size; omega)), hb4.block hl]
            exact HW2.out.2
          clear HW2 HQ HL hb4 p0 p1 HXY HBE hcc
          generalize w4.alloc (.cells #[.string s, .string all] 9) = W5 at *
          generalize w4.heap.size = gx at *
          have hc1 : IntKind.u64.wrap (if m < 0 then 0 else m) = max m 0 := by rw [show (if m < 0 then (0 : Int) else m) = max m 0 by split <;> omega]; exact wrap_u64_i64 _ (by omega) (by unfold I64 at hm ⊢; omega)
          have HW1 : Hid (IntKind.u64.wrap (max m 0) = max m 0) := wrap_u64_i64 _ (by omega) (by unfold I64 at hm ⊢; omega)
          go_loopg [91] 2 (fun g i wr => ∃ k : Nat, g = 2 - k ∧ k ≤ 2 ∧ i = .int .i64 (k : Nat) ∧ Hid (Gr W5 wr))
          case atStart => exact ⟨0, rfl, by omega, rfl, Gr.refl _⟩
          case round =>
            obtain ⟨k, rfl, hk, rfl, HR⟩ := hrel
            by_cases hlt : k < 2
            · obtain ⟨x, hxc, hxz⟩ : ∃ x : ByteArray, W5.cell? ⟨gx, k, none⟩ = some (.string x) ∧ x.size ≤ 30000 := by
                obtain ⟨d0, d1, _, _⟩ := At2.of_row HW3.out.2.2
                match k, hlt with
                | 0, _ => exact ⟨s, d0, by omega⟩
                | 1, _ => exact ⟨all, d1, hal⟩
              have hxc' := HR.out.cells hxc
              have HQ := Lib.hid (RdAt.new wr 62 x 0)
              have HGq : Hid (Gr wr (wr.alloc (.cells #[.string x, .int .i64 0] 62))) := (Gr.refl wr).alloc _
              have hxm : x.size ≤ maxLen := by unfold maxLen; omega
              have HN := fun w1 b h => Lib.hid (rref_num b x hxm 0 4 (by omega) w1 h)
              have hn4 := rdNum_lt x 0 4
              have hnz := rdNum_size x 0 4
              have HYl : Hid (rdList x m = rdPairs (rdNum x 0 4).1 (rdNum x 0 4).2.1 (if max m 0 < ((rdNum x 0 4).1 : Int) then rdFail (rdNum x 0 4).2.2 6 else (rdNum x 0 4).2.2)) := rfl
              have HYe : Hid (rdListEnd x m = if rdEnd (rdList x m).2.1 (rdList x m).2.2 = 0 then ((rdList x m).1, 0) else ([], rdEnd (rdList x m).2.1 (rdList x m).2.2)) := rfl
              have HRL := fun w1 => Lib.hid (cod_readlist x (by omega) m hm w1)
              rw [prC_eq] at HRL
              generalize rdListEnd x m = y at *
              generalize rdList x m = z at *
              generalize rdNum x 0 4 = q at *
              obtain ⟨n, s1, e1⟩ := q
              simp only at hn4 hnz HN HYl
              have HW9 : Hid ((if max m 0 < (n : Int) then rdFail e1 6 else e1) = (if max m 0 < (n : Int) then rdFail e1 6 else e1)) := rfl
              obtain ⟨e2, he2⟩ : ∃ e2, e2 = (if max m 0 < (n : Int) then rdFail e1 6 else e1) := ⟨_, rfl⟩
              rw [← he2] at HYl
              have HE2 := Lib.hid he2
              clear he2 HW9
              obtain ⟨mx, hmx⟩ : ∃ mx, mx = max m 0 := ⟨_, rfl⟩
              rw [← hmx] at hc1 HE2
              have HMX := Lib.hid hmx
              clear hmx
              have hc1b : IntKind.u64.wrap (max m 0) = mx := HW1.out.trans HMX.out.symm
              have hgq : W5.heap.size ≤ wr.heap.size := HR.out.size
              go_upto_if 104 with (first
                | (go_at_call 40; refine (HN _ _ HQ.out).out.mono ?_; rintro e w6 ⟨rfl, hr6, hc6⟩))
              have H6 : Hid (RdAt w6 wr.heap.size s1 e1 ∧ Gr W5 w6) := ⟨hr6, hc6.gr (HR.out.trans HGq.out) HR.out.size⟩
              clear hr6 hc6
              generalize wr.heap.size = gq at *
              go_cut [] (fun wc => Hid (RdAt wc gq s1 e2 ∧ Gr W5 wc))
              case first =>
                by_cases hc : mx < (n : Int)
                · have HE3 : Hid (e2 = rdFail e1 6) := by rw [HE2.out]; exact if_pos hc
                  go_wp2_with (go_at_call 43; refine (rref_fail _ _ _ 6 _ H6.out.1).mono ?_; rintro e w7 ⟨rfl, hr7, hc7⟩)
                  go_meet
                  exact ⟨by rw [HE3.out]; exact hr7, hc7.gr H6.out.2 hgq⟩
                · have HE3 : Hid (e2 = e1) := by rw [HE2.out]; exact if_neg hc
                  go_wp2_with fail
                  go_meet
                  exact ⟨by rw [HE3.out]; exact H6.out.1, H6.out.2⟩
              case rest =>
                have HV := hcut
                clear hcut H6 HE2 hc1 hc1b HN HQ
                generalize wc = V at *
                have hgv := HV.out.1.lt
                have HD := Lib.hid (HYl.out ▸ Rd.start x n s1 e2 hnz : Rd x n z [] s1 e2)
                clear HYl hnz
                go_upto_block 4 with fail
                go_cut [19] (fun v wc => ∃ Az capz zs s' e', v = .slice Az zs.length capz ∧ Hid (RdAt wc gq s' e' ∧ Gr W5 wc ∧ Own wc V.heap.size 87 2 prCell Az capz zs ∧ z = (zs, s', e') ∧ zs.length ≤ x.size + 1))
                case first =>
                  go_wp2_with fail
                  go_loopg [19, 20] n (fun g v i wr3 => ∃ Az capz zs s' e', g = n - zs.length ∧ i = .int .u64 (zs.length : Nat) ∧ v = .slice Az zs.length capz ∧ Hid (RdAt wr3 gq s' e' ∧ Gr W5 wr3 ∧ Own wr3 V.heap.size 87 2 prCell Az capz zs ∧ Rd x n z zs s' e' ∧ V.heap.size ≤ wr3.heap.size))
                  case atStart => exact ⟨none, 0, [], s1, e2, rfl, rfl, rfl, HV.out.1, HV.out.2, Own.nil _ _ _ _ _, HD.out, Nat.le_refl _⟩
                  case round =>
                    obtain ⟨Az, capz, zs, s', e', rfl, rfl, rfl, HR3⟩ := hrel
                    have qe := HR3.out.1.e
                    by_cases hlt3 : zs.length < n
                    · by_cases he : e' = 0
                      · subst he
                        have hzl := HR3.out.2.2.2.1.len
                        have hs' := HR3.out.2.2.2.1.2.2.1
                        have cw := wrap_u64_of (zs.length + 1) (by unfold U64; omega)
                        have HN2 := Lib.hid (rref_num gq s' (Nat.le_trans hs' hxm) 0 2 (by omega) wr HR3.out.1)
                        have hq2 := rdNum_lt s' 0 2
                        have hq3 := Nat.le_trans (rdNum_size s' 0 2) (Nat.le_trans hs' hxm)
                        have HT2 := fun w1 h => Lib.hid (rref_text_ gq (rdNum s' 0 2).2.1 hq3 (rdNum s' 0 2).2.2 100 (I64.nat (n := 100) (by omega)) w1 h)
                        have HST := Lib.hid (HR3.out.2.2.2.1.step hlt3)
                        rw [show rdPair s' 0 = (((rdNum s' 0 2).1, (rdText (rdNum s' 0 2).2.1 (rdNum s' 0 2).2.2 100).1), (rdText (rdNum s' 0 2).2.1 (rdNum s' 0 2).2.2 100).2) from rfl] at HST
                        generalize rdNum s' 0 2 = q2 at *
                        obtain ⟨pn, s2, e3⟩ := q2
                        simp only at hq2 HT2 HST
                        generalize rdText s2 e3 100 = t2 at *
                        obtain ⟨pt, s3, e4⟩ := t2
                        simp only at HT2 HST
                        have cv : IntKind.u16.wrap (pn : Int) = (pn : Int) := Oct.conv16 pn hq2
                        go_wp2_with (first
                          | (go_at_call 40; refine HN2.out.mono ?_; rintro e v8 ⟨rfl, hr8, hc8⟩)
                          | (go_at_call 41; refine (HT2 _ hr8).out.mono ?_; rintro e v9 ⟨rfl, hr9, hc9⟩
                             have hcc := hc8.trans hc9
                             have HO := Lib.hid ((HR3.out.2.2.1.ch hcc (fun h => by have := (HR3.out.2.2.1.lt h).2; omega)).gr ((Gr.refl v9).alloc (.cells #[.int .u16 (pn : Nat), .string pt] 87)))
                             have HZ3 : Hid (v9.heap.size < (v9.alloc (.cells #[.int .u16 (pn : Nat), .string pt] 87)).heap.size ∧ V.heap.size ≤ v9.heap.size) := ⟨by rw [alloc_size]; omega, by have := HR3.out.2.2.2.2; have := hcc.size; omega⟩)
                          | (at_builtin; refine wpList_append_lies _ rfl _ _ 85 rfl V.heap.size 87 ii _ 2 24 Try.underlying85 hi hz0 hz1 hz2 rfl (by omega) (.slice Az zs.length capz) zs.length (zs.flatMap prCell) rfl HO.out ⟨v9.heap.size, 0, none⟩ 1 1 (prCell (pn, pt)) rfl rfl (World.news_of_block (cs := #[.int .u16 (pn : Nat), .string pt]) (heap_alloc_last v9 _)) (fun u hu => by simp [prCell] at hu; rcases hu with rfl | rfl <;> rfl) (by omega) (by unfold maxLen; omega) (by omega) (by have := HZ3.out; omega) _ rfl ?_; intro gg cc v5 hown hgrow hat hlt5))
                        have HBK : Hid (∀ j, j < V.heap.size → v5.heap[j]? = (v9.alloc (.cells #[.int .u16 (pn : Nat), .string pt] 87)).heap[j]?) := fun j hj => hgrow.block j (by have := HZ3.out; omega) (fun he => by
                          change some j = (Value.slice Az zs.length capz).ownBlock at he
                          rw [ownOf_eq] at he
                          have := (HO.out.lt he.symm).2; omega)
                        have HG9 := Lib.hid ((hcc.gr HR3.out.2.1 hgq).alloc (.cells #[.int .u16 (pn : Nat), .string pt] 87))
                        have HT : Hid (RdAt v5 gq s3 e4 ∧ Gr W5 v5 ∧ Own v5 V.heap.size 87 2 prCell (some ⟨gg, 0, none⟩) cc (zs ++ [(pn, pt)]) ∧ Rd x n z (zs ++ [(pn, pt)]) s3 e4 ∧ V.heap.size ≤ v5.heap.size) := by
                          refine ⟨(hr9.gr ((Gr.refl v9).alloc _)).of_block (HBK.out _ hgv), HO.out.grown hgrow HG9.out HV.out.2.size, Own.push _ hown, HST.out, ?_⟩
                          have := hgrow.size; have := HZ3.out; omega
                        clear HBK hown hgrow hat hr8 hr9 hc8 hc9 hcc
                        go_roundg (n - (zs.length + 1))
                        case rel => exact ⟨_, _, zs ++ [(pn, pt)], s3, e4, by simp, by simp, by simp, HT⟩
                        case measure => omega
                      · have he0 : (e' == 0) = false := by simp [he]
                        go_wp2_with fail
                        go_meet
                        exact ⟨Az, capz, zs, s', e', rfl, HR3.out.1, HR3.out.2.1, HR3.out.2.2.1, HR3.out.2.2.2.1.done (.inr he), HR3.out.2.2.2.1.len⟩
                    · have hge : ¬ (zs.length : Int) < (n : Int) := by omega
                      go_wp2_with fail
                      go_meet
                      exact ⟨Az, capz, zs, s', e', rfl, HR3.out.1, HR3.out.2.1, HR3.out.2.2.1, HR3.out.2.2.2.1.done (.inl hlt3), HR3.out.2.2.2.1.len⟩
                case rest =>
                  obtain ⟨Az, capz, zs, s', e', rfl, HR3⟩ := hcut
                  obtain ⟨w0, hw0⟩ : ∃ w0, w0 = wc := ⟨_, rfl⟩
                  clear hw0 w0
                  have hgcl : gc < W5.heap.size := by
                    obtain ⟨d0, _, _, _⟩ := At2.of_row HW3.out.2.1
                    exact block_lt_of_cell d0
                  obtain ⟨p0, p1, _, _⟩ := At2.of_row ((HR3.out.2.1.block hgcl).trans HW3.out.2.1)
                  obtain rfl := HR3.out.2.2.2.1
                  simp only at HYe
                  by_cases hz : rdEnd s' e' = 0
                  · have hgt : True := trivial
                    rw [if_pos hz] at HYe
                    obtain rfl := HYe.out
                    simp only at HRL
                    go_wp2_with (first
                      | (go_at_call 55; refine (HRL _).out.mono ?_; rintro e v11 ⟨Ag, capg, rfl, hown, hg11⟩; have HE1 := Lib.hid (rref_end gq s' e' v11 (HR3.out.1.gr hg11)); rw [hz] at HE1)
                      | (go_at_call 44; refine HE1.out.mono ?_; rintro e v12 ⟨rfl, rfl⟩))
                    have HSA : Hid (SliceAt v11 Ag 2 prCell zs ∧ SliceAt v11 Az 2 prCell zs ∧ Gr W5 v11) := ⟨hown.slice fun _ => rfl, (HR3.out.2.2.1.gr hg11).slice fun _ => rfl, HR3.out.2.1.trans hg11⟩
                    have hcg := hown.cap_le.1
                    have hcz := HR3.out.2.2.1.cap_le.1
                    have hzl := HR3.out.2.2.2.2
                    clear hown hg11 HE1 HR3
                    generalize v11 = W6 at *
                    go_loopg [161] zs.length (fun g i wr4 => ∃ j : Nat, g = zs.length - j ∧ j ≤ zs.length ∧ i = .int .i64 (j : Nat) ∧ Hid (Gr W6 wr4))
                    case atStart => exact ⟨0, rfl, by omega, rfl, Gr.refl _⟩
                    case round =>
                      obtain ⟨j, rfl, hj, rfl, HG4⟩ := hrel
                      by_cases hjl : j < zs.length
                      · rcases HSA.out.1 with h0 | ⟨ga, oa, rfl, hca⟩
                        · subst h0; simp at hjl
                        · rcases HSA.out.2.1 with h0 | ⟨gb, ob, rfl, hcb⟩
                          · subst h0; simp at hjl
                          · have a0 := HG4.out.cells (hca j zs[j] (List.getElem?_eq_getElem hjl) 0 _ rfl)
                            have a1 := HG4.out.cells (hca j zs[j] (List.getElem?_eq_getElem hjl) 1 _ rfl)
                            have b0 := HG4.out.cells (hcb j zs[j] (List.getElem?_eq_getElem hjl) 0 _ rfl)
                            have b1 := HG4.out.cells (hcb j zs[j] (List.getElem?_eq_getElem hjl) 1 _ rfl)
                            simp only [Nat.add_zero] at a0 b0
                            have HK1 := Lib.hid hca
                            have HK2 := Lib.hid hcb
                            clear hca hcb
                            generalize zs[j] = zj at *
                            obtain ⟨zn, zt⟩ := zj
                            simp only at a0 a1 b0 b1
                            go_wp2
                            go_region
                            go_wp2
                            go_roundg (zs.length - (j + 1))
                            case measure => omega
                            case rel => exact ⟨j + 1, rfl, by omega, by go_num, HG4.out.drew⟩
                      · obtain rfl : j = zs.length := by omega
                        have HW6 : Hid (Gr W5 wr) := HSA.out.2.2.trans HG4.out
                        clear HSA HG4
                        generalize wr = wc at *
                        have HQ2 := Lib.hid (RdAt.new wc 62 x 0)
                        have HG2 : Hid (Gr wc (wc.alloc (.cells #[.string x, .int .i64 0] 62))) := (Gr.refl wc).alloc _
                        have HN5 := fun w1 b h => Lib.hid (rref_num b x hxm 0 2 (by omega) w1 h)
                        have hq5 := rdNum_lt x 0 2
                        have hq6 := Nat.le_trans (rdNum_size x 0 2) hxm
                        have HT5 := fun w1 b h => Lib.hid (rref_text_ b (rdNum x 0 2).2.1 hq6 (rdNum x 0 2).2.2 100 (I64.nat (n := 100) (by omega)) w1 h)
                        have HRD := fun w1 => Lib.hid (cod_read x hxm w1)
                        rw [prC_eq] at HRD
                        have HY5 : Hid (rdEndPair x = if rdEnd (rdText (rdNum x 0 2).2.1 (rdNum x 0 2).2.2 100).2.1 (rdText (rdNum x 0 2).2.1 (rdNum x 0 2).2.2 100).2.2 = 0 then (((rdNum x 0 2).1, (rdText (rdNum x 0 2).2.1 (rdNum x 0 2).2.2 100).1), 0) else ((0, ByteArray.empty), rdEnd (rdText (rdNum x 0 2).2.1 (rdNum x 0 2).2.2 100).2.1 (rdText (rdNum x 0 2).2.1 (rdNum x 0 2).2.2 100).2.2)) := rfl
                        generalize rdEndPair x = y5 at *
                        generalize rdNum x 0 2 = q5 at *
                        obtain ⟨pn, s2, e3⟩ := q5
                        simp only at hq5 HT5 HN5 HY5
                        generalize rdText s2 e3 100 = t5 at *
                        obtain ⟨pt, s3, e4⟩ := t5
                        simp only at HT5 HY5
                        have cv5 : IntKind.u16.wrap (pn : Int) = (pn : Int) := Oct.conv16 pn hq5
                        by_cases hz5 : rdEnd s3 e4 = 0
                        · rw [if_pos hz5] at HY5
                          obtain rfl := HY5.out
                          simp only at HRD
                          go_wp2_with (first
                            | (go_at_call 40; refine (HN5 _ _ HQ2.out).out.mono ?_; rintro e v8 ⟨rfl, hr8, hc8⟩)
                            | (go_at_call 41; refine (HT5 _ _ hr8).out.mono ?_; rintro e v9 ⟨rfl, hr9, hc9⟩
                               have hlq := hr8.lt
                               have HGA : Hid (Gr W5 (v9.alloc (.cells #[.int .u16 (pn : Nat), .string pt] 87))) := ((hc8.trans hc9).gr (HW6.out.trans HG2.out) HW6.out.size).alloc _
                               have HRQ := Lib.hid (hr9.gr ((Gr.refl v9).alloc (.cells #[.int .u16 (pn : Nat), .string pt] 87)))
                               obtain ⟨r0, r1, _, _⟩ := At2.of_row ((HGA.out.block hgcl).trans HW3.out.2.1)
                               have HC9 := Lib.hid (heap_alloc_last v9 (.cells #[.int .u16 (pn : Nat), .string pt] 87)))
                            | (go_at_call 56; refine (HRD _).out.mono ?_; rintro e v12 ⟨rfl, hg12⟩
                               have HGB := Lib.hid (HGA.out.trans (hg12.alloc (.cells #[.int .u16 (pn : Nat), .string pt] 87)))
                               have HRE := Lib.hid (rref_end _ _ _ _ (HRQ.out.gr (hg12.alloc (.cells #[.int .u16 (pn : Nat), .string pt] 87))))
                               rw [hz5] at HRE
                               obtain ⟨o0, o1, _, _⟩ := At2.of_row (((hg12.alloc (.cells #[.int .u16 (pn : Nat), .string pt] 87)).block (k := v9.heap.size) (by rw [alloc_size]; omega)).trans HC9.out))
                            | (go_at_call 44; refine HRE.out.mono ?_; rintro e v13 ⟨rfl, rfl⟩))
                          go_roundg (2 - (k + 1))
                          case rel => exact ⟨k + 1, rfl, by omega, by go_num, HGB.out⟩
                          case measure => omega
                        · rw [if_neg hz5] at HY5
                          obtain rfl := HY5.out
                          simp only at HRD
                          have e0 : ((0 : Nat) : Int) = 0 := rfl
                          simp only [e0] at HRD
                          have hb5 : (rdEnd s3 e4 == 0) = false := by simp [hz5]
                          have hb6 : (rdEnd s3 e4 != 0) = true := by simp [hz5]
                          go_wp2_with (first
                            | (go_at_call 40; refine (HN5 _ _ HQ2.out).out.mono ?_; rintro e v8 ⟨rfl, hr8, hc8⟩)
                            | (go_at_call 41; refine (HT5 _ _ hr8).out.mono ?_; rintro e v9 ⟨rfl, hr9, hc9⟩
                               have hlq := hr8.lt
                               have HGA : Hid (Gr W5 (v9.alloc (.cells #[.int .u16 (pn : Nat), .string pt] 87))) := ((hc8.trans hc9).gr (HW6.out.trans HG2.out) HW6.out.size).alloc _
                               have HRQ := Lib.hid (hr9.gr ((Gr.refl v9).alloc (.cells #[.int .u16 (pn : Nat), .string pt] 87)))
                               obtain ⟨r0, r1, _, _⟩ := At2.of_row ((HGA.out.block hgcl).trans HW3.out.2.1)
                               have HC9 := Lib.hid (heap_alloc_last v9 (.cells #[.int .u16 (pn : Nat), .string pt] 87)))
                            | (go_at_call 56; refine (HRD _).out.mono ?_; rintro e v12 ⟨rfl, hg12⟩
                               have HGB := Lib.hid (HGA.out.trans (hg12.alloc (.cells #[.int .u16 0, .string ByteArray.empty] 87)))
                               have HRE := Lib.hid (rref_end _ _ _ _ (HRQ.out.gr (hg12.alloc (.cells #[.int .u16 0, .string ByteArray.empty] 87))))
                               obtain ⟨o0, o1, _, _⟩ := At2.of_row (((hg12.alloc (.cells #[.int .u16 0, .string ByteArray.empty] 87)).block (k := v9.heap.size) (by rw [alloc_size]; omega)).trans HC9.out))
                            | (go_at_call 44; refine HRE.out.mono ?_; rintro e v13 ⟨rfl, rfl⟩))
                          go_roundg (2 - (k + 1))
                          case rel => exact ⟨k + 1, rfl, by omega, by go_num, HGB.out⟩
                          case measure => omega
                  · rw [if_neg hz] at HYe
                    obtain rfl := HYe.out
                    simp only at HRL
                    simp only [List.length_nil] at HRL
                    have hb3 : (rdEnd s' e' == 0) = false := by simp [hz]
                    have hb4 : (rdEnd s' e' != 0) = true := by simp [hz]
                    go_wp2_with (first
                      | (go_at_call 55; refine (HRL _).out.mono ?_; rintro e v11 ⟨Ag, capg, rfl, hown, hg11⟩; have HE1 := Lib.hid (rref_end gq s' e' v11 (HR3.out.1.gr hg11)))
                      | (go_at_call 44; refine HE1.out.mono ?_; rintro e v12 ⟨rfl, rfl⟩))
                    have HSA : Hid (Gr W5 v11) := HR3.out.2.1.trans hg11
                    clear hown hg11 HE1 HR3
                    generalize v11 = W6 at *
                    go_loopg [161] 0 (fun g i wr4 => g = 0 ∧ i = .int .i64 0 ∧ Hid (Gr W6 wr4))
                    case atStart => exact ⟨rfl, rfl, Gr.refl _⟩
                    case round =>
                      obtain ⟨rfl, rfl, HG4⟩ := hrel
                      have HW6 : Hid (Gr W5 wr) := HSA.out.trans HG4.out
                      clear HSA HG4
                      generalize wr = wc at *
                      have HQ2 := Lib.hid (RdAt.new wc 62 x 0)
                      have HG2 : Hid (Gr wc (wc.alloc (.cells #[.string x, .int .i64 0] 62))) := (Gr.refl wc).alloc _
                      have HN5 := fun w1 b h => Lib.hid (rref_num b x hxm 0 2 (by omega) w1 h)
                      have hq5 := rdNum_lt x 0 2
                      have hq6 := Nat.le_trans (rdNum_size x 0 2) hxm
                      have HT5 := fun w1 b h => Lib.hid (rref_text_ b (rdNum x 0 2).2.1 hq6 (rdNum x 0 2).2.2 100 (I64.nat (n := 100) (by omega)) w1 h)
                      have HRD := fun w1 => Lib.hid (cod_read x hxm w1)
                      rw [prC_eq] at HRD
                      have HY5 : Hid (rdEndPair x = if rdEnd (rdText (rdNum x 0 2).2.1 (rdNum x 0 2).2.2 100).2.1 (rdText (rdNum x 0 2).2.1 (rdNum x 0 2).2.2 100).2.2 = 0 then (((rdNum x 0 2).1, (rdText (rdNum x 0 2).2.1 (rdNum x 0 2).2.2 100).1), 0) else ((0, ByteArray.empty), rdEnd (rdText (rdNum x 0 2).2.1 (rdNum x 0 2).2.2 100).2.1 (rdText (rdNum x 0 2).2.1 (rdNum x 0 2).2.2 100).2.2)) := rfl
                      generalize rdEndPair x = y5 at *
                      generalize rdNum x 0 2 = q5 at *
                      obtain ⟨pn, s2, e3⟩ := q5
                      simp only at hq5 HT5 HN5 HY5
                      generalize rdText s2 e3 100 = t5 at *
                      obtain ⟨pt, s3, e4⟩ := t5
                      simp only at HT5 HY5
                      have cv5 : IntKind.u16.wrap (pn : Int) = (pn : Int) := Oct.conv16 pn hq5
                      by_cases hz5 : rdEnd s3 e4 = 0
                      · rw [if_pos hz5] at HY5
                        obtain rfl := HY5.out
                        simp only at HRD
                        go_wp2_with (first
                          | (go_at_call 40; refine (HN5 _ _ HQ2.out).out.mono ?_; rintro e v8 ⟨rfl, hr8, hc8⟩)
                          | (go_at_call 41; refine (HT5 _ _ hr8).out.mono ?_; rintro e v9 ⟨rfl, hr9, hc9⟩
                             have hlq := hr8.lt
                             have HGA : Hid (Gr W5 (v9.alloc (.cells #[.int .u16 (pn : Nat), .string pt] 87))) := ((hc8.trans hc9).gr (HW6.out.trans HG2.out) HW6.out.size).alloc _
                             have HRQ := Lib.hid (hr9.gr ((Gr.refl v9).alloc (.cells #[.int .u16 (pn : Nat), .string pt] 87)))
                             obtain ⟨r0, r1, _, _⟩ := At2.of_row ((HGA.out.block hgcl).trans HW3.out.2.1)
                             have HC9 := Lib.hid (heap_alloc_last v9 (.cells #[.int .u16 (pn : Nat), .string pt] 87)))
                          | (go_at_call 56; refine (HRD _).out.mono ?_; rintro e v12 ⟨rfl, hg12⟩
                             have HGB := Lib.hid (HGA.out.trans (hg12.alloc (.cells #[.int .u16 (pn : Nat), .string pt] 87)))
                             have HRE := Lib.hid (rref_end _ _ _ _ (HRQ.out.gr (hg12.alloc (.cells #[.int .u16 (pn : Nat), .string pt] 87))))
                             rw [hz5] at HRE
                             obtain ⟨o0, o1, _, _⟩ := At2.of_row (((hg12.alloc (.cells #[.int .u16 (pn : Nat), .string pt] 87)).block (k := v9.heap.size) (by rw [alloc_size]; omega)).trans HC9.out))
                          | (go_at_call 44; refine HRE.out.mono ?_; rintro e v13 ⟨rfl, rfl⟩))
                        go_roundg (2 - (k + 1))
                        case rel => exact ⟨k + 1, rfl, by omega, by go_num, HGB.out⟩
                        case measure => omega
                      · rw [if_neg hz5] at HY5
                        obtain rfl := HY5.out
                        simp only at HRD
                        have e0 : ((0 : Nat) : Int) = 0 := rfl
                        simp only [e0] at HRD
                        have hb5 : (rdEnd s3 e4 == 0) = false := by simp [hz5]
                        have hb6 : (rdEnd s3 e4 != 0) = true := by simp [hz5]
                        go_wp2_with (first
                          | (go_at_call 40; refine (HN5 _ _ HQ2.out).out.mono ?_; rintro e v8 ⟨rfl, hr8, hc8⟩)
                          | (go_at_call 41; refine (HT5 _ _ hr8).out.mono ?_; rintro e v9 ⟨rfl, hr9, hc9⟩
                             have hlq := hr8.lt
                             have HGA : Hid (Gr W5 (v9.alloc (.cells #[.int .u16 (pn : Nat), .string pt] 87))) := ((hc8.trans hc9).gr (HW6.out.trans HG2.out) HW6.out.size).alloc _
                             have HRQ := Lib.hid (hr9.gr ((Gr.refl v9).alloc (.cells #[.int .u16 (pn : Nat), .string pt] 87)))
                             obtain ⟨r0, r1, _, _⟩ := At2.of_row ((HGA.out.block hgcl).trans HW3.out.2.1)
                             have HC9 := Lib.hid (heap_alloc_last v9 (.cells #[.int .u16 (pn : Nat), .string pt] 87)))
                          | (go_at_call 56; refine (HRD _).out.mono ?_; rintro e v12 ⟨rfl, hg12⟩
                             have HGB := Lib.hid (HGA.out.trans (hg12.alloc (.cells #[.int .u16 0, .string ByteArray.empty] 87)))
                             have HRE := Lib.hid (rref_end _ _ _ _ (HRQ.out.gr (hg12.alloc (.cells #[.int .u16 0, .string ByteArray.empty] 87))))
                             obtain ⟨o0, o1, _, _⟩ := At2.of_row (((hg12.alloc (.cells #[.int .u16 0, .string ByteArray.empty] 87)).block (k := v9.heap.size) (by rw [alloc_size]; omega)).trans HC9.out))
                          | (go_at_call 44; refine HRE.out.mono ?_; rintro e v13 ⟨rfl, rfl⟩))
                        go_roundg (2 - (k + 1))
                        case rel => exact ⟨k + 1, rfl, by omega, by go_num, HGB.out⟩
                        case measure => omega
            · obtain rfl : k = 2 := by omega
              have HZZ : Hid (Gr w wr) := HW3.out.1.trans HR.out
              obtain ⟨z0, z1, _, _⟩ := At2.of_row (heap_alloc_last wr (.cells #[.nilFunc, .nilFunc] 95))
              have HA0 : Hid (Gr w (wr.alloc (.cells #[.nilFunc, .nilFunc] 95))) := HZZ.out.alloc _
              go_wp2_with (first
                | (go_at_call 57; refine (non_read _ _).mono ?_; rintro e v1 ⟨rfl, g1⟩; have z2 := g1.cells z0; have z3 := g1.cells z1)
                | (go_at_call 58; refine (non_readlist _ _ _).mono ?_; rintro e v2 ⟨rfl, g2⟩; have z4 := g2.cells z2; have z5 := g2.cells z3)
                | (go_at_call 59; refine (non_bytes _ _).mono ?_; rintro e v3 ⟨rfl, g3⟩))
              go_ret
              exact ⟨rfl, ((HA0.out.trans g1).trans g2).trans g3⟩
end Go.Proofs.Ytlkkgnidcgochaa
