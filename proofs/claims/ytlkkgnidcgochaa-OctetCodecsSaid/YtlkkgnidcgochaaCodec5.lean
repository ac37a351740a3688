/- Layer 3: a codec's list, read: the walk. -/
import Derived.Test.YtlkkgnidcgochaaCodec4
namespace Go.Proofs.Ytlkkgnidcgochaa
open Go.RowKit
set_option linter.unusedVariables false
set_option linter.unusedSimpArgs false
set_option maxRecDepth 100000
set_option maxHeartbeats 2000000
theorem cod_readlist (s : ByteArray) (hs : s.size ≤ 1000000) (m : Int) (hm : I64 m) (w : World) :
    Calls Try.prog 55 #[prC, .string s, .int .i64 m] w fun r w' => ∃ A cap, r = .returned (.tuple #[.slice A (rdListEnd s m).1.length cap, .int .i64 (rdListEnd s m).2]) ∧ Own w' w.heap.size 87 2 prCell A cap (rdListEnd s m).1 ∧ Gr w w' := by
  have hn1 := cod_eq2
  obtain ⟨ii, hi, hz0, hz1, hz2⟩ := info_parts pr_info
  rw [prC_eq]
  have hsm : s.size ≤ maxLen := by unfold maxLen; omega
  have HF := fun b w1 h => Lib.hid (oct_rdfour b s hsm 0 w1 h)
  have hlt := rdNum_lt s 0 4
  have hsz := rdNum_size s 0 4
  have HY : Hid (rdListEnd s m = if rdEnd (rdList s m).2.1 (rdList s m).2.2 = 0 then ((rdList s m).1, 0) else ([], rdEnd (rdList s m).2.1 (rdList s m).2.2)) := rfl
  have HX : Hid (rdList s m = rdPairs (rdNum s 0 4).1 (rdNum s 0 4).2.1 (if max m 0 < ((rdNum s 0 4).1 : Int) then rdFail (rdNum s 0 4).2.2 6 else (rdNum s 0 4).2.2)) := rfl
  generalize rdListEnd s m = y at *
  generalize rdList s m = z at *
  generalize rdNum s 0 4 = q at *
  obtain ⟨n, s1, e1⟩ := q
  simp only at hlt hsz HF HX
  have c0 : IntKind.u64.wrap (n : Int) = (n : Int) := wrap_u64_of n (by unfold U64; omega)
  have c1 : IntKind.u64.wrap (if m < 0 then 0 else m) = max m 0 := by rw [show (if m < 0 then (0 : Int) else m) = max m 0 by split <;> omega]; exact wrap_u64_i64 _ (by omega) (by unfold I64 at hm ⊢; omega)
  have HA := Lib.hid (heap_alloc_last w (.cells #[.func (.func 66) #[] #[], .func (.func 67) #[] #[]] 83))
  have HB : Hid (Gr w (w.alloc (.cells #[.func (.func 66) #[] #[], .func (.func 67) #[] #[]] 83))) := (Gr.refl w).alloc _
  obtain ⟨mx, hmx⟩ : ∃ x, x = max m 0 := ⟨_, rfl⟩
  have HM := Lib.hid hmx
  rw [← hmx] at c1 HX
  clear hmx
  by_cases hc : mx < (n : Int)
  · rw [if_pos hc] at HX
    go_enter Try.func55, Try.ntmps55
    go_wp2_with (first
      | (go_at_call 29; refine (oct_over s _).mono ?_; rintro r v1 ⟨rfl, hr0, hg⟩; have hr : RdAt v1 (w.heap.size + 1) s 0 := by { have h := hr0; rw [alloc_size] at h; exact h }; clear hr0)
      | (go_at_call 33; refine (HF _ _ hr).out.mono ?_; rintro r v2 ⟨rfl, hr2, hc2⟩)
      | (go_at_call 36; refine (oct_fail _ _ _ 6 _ hr2).mono ?_; rintro r v3 ⟨rfl, hr3, hc3⟩))
    all_goals
      have HV : Hid (RdAt v3 (w.heap.size + 1) s1 (rdFail e1 6) ∧ Gr w v3 ∧ v3.heap[w.heap.size]? = some (.cells #[.func (.func 66) #[] #[], .func (.func 67) #[] #[]] 83 (0, 0))) := by
        have hl := hr.lt
        have h3 := hc2.trans hc3
        refine ⟨hr3, h3.gr (HB.out.trans hg) (Nat.le_succ _), ?_⟩
        rw [h3.block _ (by omega) (by omega), hg.block (k := w.heap.size) (by rw [alloc_size]; omega)]
        exact HA.out
      clear hr hr2 hr3 hc2 hc3 hg HA HB HF HM c0 c1 hc
      generalize rdFail e1 6 = e2 at *
      generalize v3 = V at *
      have HD := Lib.hid (HX.out ▸ Rd.start s n s1 e2 hsz : Rd s n z [] s1 e2)
      clear HX hsz
      go_loopw [10, 11] (fun x i wr => ∃ A cap xs s' e', i = .int .u32 (xs.length : Nat) ∧ x = .slice A xs.length cap ∧ Hid (RdAt wr (w.heap.size + 1) s' e' ∧ Gr w wr ∧ wr.heap[w.heap.size]? = some (.cells #[.func (.func 66) #[] #[], .func (.func 67) #[] #[]] 83 (0, 0)) ∧ Own wr (w.heap.size + 2) 87 2 prCell A cap xs ∧ Rd s n z xs s' e')) (fun _ i _ => n - (intOf i).toNat)
      case atStart => exact ⟨none, 0, [], s1, e2, rfl, rfl, HV.out.1, HV.out.2.1, HV.out.2.2, Own.nil _ _ _ _ _, HD.out⟩
      case round =>
        obtain ⟨A, cap, xs, s', e', rfl, rfl, HR⟩ := hrel
        have HE := Lib.hid (oct_err _ _ _ _ HR.out.1)
        have HEn := Lib.hid (oct_end _ _ _ _ HR.out.1)
        by_cases hlt2 : xs.length < n
        · by_cases he : e' = 0
          · subst he
            have hxl := HR.out.2.2.2.2.len
            obtain ⟨p0, p1, _, _⟩ := At2.of_row HR.out.2.2.1
            have cw : IntKind.u32.wrap ((xs.length : Int) + 1) = (xs.length : Int) + 1 := by
              have := Oct.conv32 (xs.length + 1) (by omega)
              simpa using this
            have hs' := HR.out.2.2.2.2.2.2.1
            have HG := Lib.hid (cod_get _ s' (Nat.le_trans hs' hsm) 0 wr HR.out.1)
            have HST := Lib.hid (HR.out.2.2.2.2.step hlt2)
            generalize rdPair s' 0 = pz at *
            obtain ⟨⟨pn, pt⟩, s2, e3⟩ := pz
            simp only at HG HST
            go_wp2_with (first
              | (go_at_call 39; refine HE.out.mono ?_; rintro r w3 ⟨rfl, rfl⟩)
              | (go_at_call 67; refine HG.out.mono ?_; rintro r v4 ⟨rfl, hr, hc⟩
                 have HO := Lib.hid ((HR.out.2.2.2.1.ch hc (fun h => by have := (HR.out.2.2.2.1.lt h).2; omega)).gr ((Gr.refl v4).alloc (.cells #[.int .u16 (pn : Nat), .string pt] 87)))
                 have HZ : Hid (v4.heap.size < (v4.alloc (.cells #[.int .u16 (pn : Nat), .string pt] 87)).heap.size ∧ w.heap.size + 2 ≤ v4.heap.size) := ⟨by rw [alloc_size]; omega, by have := HR.out.1.lt; have := hc.size; omega⟩)
              | (at_builtin; refine wpList_append_lies _ rfl _ _ 85 rfl (w.heap.size + 2) 87 ii _ 2 24 Try.underlying85 hi hz0 hz1 hz2 rfl (by omega) (.slice A xs.length cap) xs.length (xs.flatMap prCell) rfl HO.out ⟨v4.heap.size, 0, none⟩ 1 1 (prCell (pn, pt)) rfl rfl (World.news_of_block (cs := #[.int .u16 (pn : Nat), .string pt]) (heap_alloc_last v4 _)) (fun u hu => by simp [prCell] at hu; rcases hu with rfl | rfl <;> rfl) (by omega) (by unfold maxLen; omega) (by omega) (by have := HZ.out; omega) _ rfl ?_; intro gg cc v5 hown hgrow hat hlt5))
            have HBK : Hid (∀ j, j < w.heap.size + 2 → v5.heap[j]? = (v4.alloc (.cells #[.int .u16 (pn : Nat), .string pt] 87)).heap[j]?) := fun j hj => hgrow.block j (by have := HZ.out; omega) (fun he => by
              rw [ownOf_eq] at he
              have := (HO.out.lt he.symm).2; omega)
            have HT : Hid (RdAt v5 (w.heap.size + 1) s2 e3 ∧ Gr w v5 ∧ v5.heap[w.heap.size]? = some (.cells #[.func (.func 66) #[] #[], .func (.func 67) #[] #[]] 83 (0, 0)) ∧ Own v5 (w.heap.size + 2) 87 2 prCell (some ⟨gg, 0, none⟩) cc (xs ++ [(pn, pt)]) ∧ Rd s n z (xs ++ [(pn, pt)]) s2 e3) := by
              refine ⟨(hr.gr ((Gr.refl v4).alloc _)).of_block (HBK.out _ (by omega)), HO.out.grown hgrow ((hc.gr HR.out.2.1 (Nat.le_succ _)).alloc _) (by omega), ?_, Own.push _ hown, HST.out⟩
              rw [HBK.out _ (by omega), ((Gr.refl v4).alloc _ |>.block (k := w.heap.size) (by have := HZ.out.2; omega)), hc.block _ (by have := HR.out.1.lt; omega) (by omega)]
              exact HR.out.2.2.1
            clear HBK hown hgrow hat hr hc
            go_roundw
            case rel => exact ⟨_, _, xs ++ [(pn, pt)], s2, e3, by simp, by simp, HT⟩
            case measure => simp [intOf]; omega
          · have he0 : (e' == 0) = false := by simp [he]
            obtain rfl := HR.out.2.2.2.2.done (.inr he)
            simp only at HY
            by_cases hz : rdEnd s' e' = 0
            · have hzb : (rdEnd s' e' != 0) = false := by simp [hz]
              rw [if_pos hz] at HY
              obtain rfl := HY.out
              clear hz
              go_wp2_with (first
                | (go_at_call 39; refine HE.out.mono ?_; rintro r w3 ⟨rfl, rfl⟩)
                | (go_at_call 35; refine HEn.out.mono ?_; rintro r w3 ⟨rfl, rfl⟩))
              go_ret2
              exact ⟨_, _, rfl, HR.out.2.2.2.1.mono (by omega), HR.out.2.1⟩
            · have hzb : (rdEnd s' e' != 0) = true := by simp [hz]
              rw [if_neg hz] at HY
              obtain rfl := HY.out
              clear hz
              go_wp2_with (first
                | (go_at_call 39; refine HE.out.mono ?_; rintro r w3 ⟨rfl, rfl⟩)
                | (go_at_call 35; refine HEn.out.mono ?_; rintro r w3 ⟨rfl, rfl⟩))
              go_ret2
              exact ⟨none, 0, rfl, Own.nil _ _ _ _ _, HR.out.2.1⟩
        · obtain rfl := HR.out.2.2.2.2.done (.inl hlt2)
          have hge : ¬ (xs.length : Int) < (n : Int) := by omega
          simp only at HY
          by_cases hz : rdEnd s' e' = 0
          · have hzb : (rdEnd s' e' != 0) = false := by simp [hz]
            rw [if_pos hz] at HY
            obtain rfl := HY.out
            clear hz
            go_wp2_with (first
              | (go_at_call 39; refine HE.out.mono ?_; rintro r w3 ⟨rfl, rfl⟩)
              | (go_at_call 35; refine HEn.out.mono ?_; rintro r w3 ⟨rfl, rfl⟩))
            go_ret2
            exact ⟨_, _, rfl, HR.out.2.2.2.1.mono (by omega), HR.out.2.1⟩
          · have hzb : (rdEnd s' e' != 0) = true := by simp [hz]
            rw [if_neg hz] at HY
            obtain rfl := HY.out
            clear hz
            go_wp2_with (first
              | (go_at_call 39; refine HE.out.mono ?_; rintro r w3 ⟨rfl, rfl⟩)
              | (go_at_call 35; refine HEn.out.mono ?_; rintro r w3 ⟨rfl, rfl⟩))
            go_ret2
            exact ⟨none, 0, rfl, Own.nil _ _ _ _ _, HR.out.2.1⟩
  · rw [if_neg hc] at HX
    have e2 := e1
    go_enter Try.func55, Try.ntmps55
    go_wp2_with (first
      | (go_at_call 29; refine (oct_over s _).mono ?_; rintro r v1 ⟨rfl, hr0, hg⟩; have hr : RdAt v1 (w.heap.size + 1) s 0 := by { have h := hr0; rw [alloc_size] at h; exact h }; clear hr0)
      | (go_at_call 33; refine (HF _ _ hr).out.mono ?_; rintro r v2 ⟨rfl, hr2, hc2⟩))
    all_goals
      have HV : Hid (RdAt v2 (w.heap.size + 1) s1 e1 ∧ Gr w v2 ∧ v2.heap[w.heap.size]? = some (.cells #[.func (.func 66) #[] #[], .func (.func 67) #[] #[]] 83 (0, 0))) := by
        have hl := hr.lt
        refine ⟨hr2, hc2.gr (HB.out.trans hg) (Nat.le_succ _), ?_⟩
        rw [hc2.block _ (by omega) (by omega), hg.block (k := w.heap.size) (by rw [alloc_size]; omega)]
        exact HA.out
      clear hr hr2 hc2 hg HA HB HF HM c0 c1 hc e2
      generalize v2 = V at *
      generalize e1 = e2 at *
      have HD := Lib.hid (HX.out ▸ Rd.start s n s1 e2 hsz : Rd s n z [] s1 e2)
      clear HX hsz
      go_loopw [10, 11] (fun x i wr => ∃ A cap xs s' e', i = .int .u32 (xs.length : Nat) ∧ x = .slice A xs.length cap ∧ Hid (RdAt wr (w.heap.size + 1) s' e' ∧ Gr w wr ∧ wr.heap[w.heap.size]? = some (.cells #[.func (.func 66) #[] #[], .func (.func 67) #[] #[]] 83 (0, 0)) ∧ Own wr (w.heap.size + 2) 87 2 prCell A cap xs ∧ Rd s n z xs s' e')) (fun _ i _ => n - (intOf i).toNat)
      case atStart => exact ⟨none, 0, [], s1, e2, rfl, rfl, HV.out.1, HV.out.2.1, HV.out.2.2, Own.nil _ _ _ _ _, HD.out⟩
      case round =>
        obtain ⟨A, cap, xs, s', e', rfl, rfl, HR⟩ := hrel
        have HE := Lib.hid (oct_err _ _ _ _ HR.out.1)
        have HEn := Lib.hid (oct_end _ _ _ _ HR.out.1)
        by_cases hlt2 : xs.length < n
        · by_cases he : e' = 0
          · subst he
            have hxl := HR.out.2.2.2.2.len
            obtain ⟨p0, p1, _, _⟩ := At2.of_row HR.out.2.2.1
            have cw : IntKind.u32.wrap ((xs.length : Int) + 1) = (xs.length : Int) + 1 := by
              have := Oct.conv32 (xs.length + 1) (by omega)
              simpa using this
            have hs' := HR.out.2.2.2.2.2.2.1
            have HG := Lib.hid (cod_get _ s' (Nat.le_trans hs' hsm) 0 wr HR.out.1)
            have HST := Lib.hid (HR.out.2.2.2.2.step hlt2)
            generalize rdPair s' 0 = pz at *
            obtain ⟨⟨pn, pt⟩, s2, e3⟩ := pz
            simp only at HG HST
            go_wp2_with (first
              | (go_at_call 39; refine HE.out.mono ?_; rintro r w3 ⟨rfl, rfl⟩)
              | (go_at_call 67; refine HG.out.mono ?_; rintro r v4 ⟨rfl, hr, hc⟩
                 have HO := Lib.hid ((HR.out.2.2.2.1.ch hc (fun h => by have := (HR.out.2.2.2.1.lt h).2; omega)).gr ((Gr.refl v4).alloc (.cells #[.int .u16 (pn : Nat), .string pt] 87)))
                 have HZ : Hid (v4.heap.size < (v4.alloc (.cells #[.int .u16 (pn : Nat), .string pt] 87)).heap.size ∧ w.heap.size + 2 ≤ v4.heap.size) := ⟨by rw [alloc_size]; omega, by have := HR.out.1.lt; have := hc.size; omega⟩)
              | (at_builtin; refine wpList_append_lies _ rfl _ _ 85 rfl (w.heap.size + 2) 87 ii _ 2 24 Try.underlying85 hi hz0 hz1 hz2 rfl (by omega) (.slice A xs.length cap) xs.length (xs.flatMap prCell) rfl HO.out ⟨v4.heap.size, 0, none⟩ 1 1 (prCell (pn, pt)) rfl rfl (World.news_of_block (cs := #[.int .u16 (pn : Nat), .string pt]) (heap_alloc_last v4 _)) (fun u hu => by simp [prCell] at hu; rcases hu with rfl | rfl <;> rfl) (by omega) (by unfold maxLen; omega) (by omega) (by have := HZ.out; omega) _ rfl ?_; intro gg cc v5 hown hgrow hat hlt5))
            have HBK : Hid (∀ j, j < w.heap.size + 2 → v5.heap[j]? = (v4.alloc (.cells #[.int .u16 (pn : Nat), .string pt] 87)).heap[j]?) := fun j hj => hgrow.block j (by have := HZ.out; omega) (fun he => by
              rw [ownOf_eq] at he
              have := (HO.out.lt he.symm).2; omega)
            have HT : Hid (RdAt v5 (w.heap.size + 1) s2 e3 ∧ Gr w v5 ∧ v5.heap[w.heap.size]? = some (.cells #[.func (.func 66) #[] #[], .func (.func 67) #[] #[]] 83 (0, 0)) ∧ Own v5 (w.heap.size + 2) 87 2 prCell (some ⟨gg, 0, none⟩) cc (xs ++ [(pn, pt)]) ∧ Rd s n z (xs ++ [(pn, pt)]) s2 e3) := by
              refine ⟨(hr.gr ((Gr.refl v4).alloc _)).of_block (HBK.out _ (by omega)), HO.out.grown hgrow ((hc.gr HR.out.2.1 (Nat.le_succ _)).alloc _) (by omega), ?_, Own.push _ hown, HST.out⟩
              rw [HBK.out _ (by omega), ((Gr.refl v4).alloc _ |>.block (k := w.heap.size) (by have := HZ.out.2; omega)), hc.block _ (by have := HR.out.1.lt; omega) (by omega)]
              exact HR.out.2.2.1
            clear HBK hown hgrow hat hr hc
            go_roundw
            case rel => exact ⟨_, _, xs ++ [(pn, pt)], s2, e3, by simp, by simp, HT⟩
            case measure => simp [intOf]; omega
          · have he0 : (e' == 0) = false := by simp [he]
            obtain rfl := HR.out.2.2.2.2.done (.inr he)
            simp only at HY
            by_cases hz : rdEnd s' e' = 0
            · have hzb : (rdEnd s' e' != 0) = false := by simp [hz]
              rw [if_pos hz] at HY
              obtain rfl := HY.out
              clear hz
              go_wp2_with (first
                | (go_at_call 39; refine HE.out.mono ?_; rintro r w3 ⟨rfl, rfl⟩)
                | (go_at_call 35; refine HEn.out.mono ?_; rintro r w3 ⟨rfl, rfl⟩))
              go_ret2
              exact ⟨_, _, rfl, HR.out.2.2.2.1.mono (by omega), HR.out.2.1⟩
            · have hzb : (rdEnd s' e' != 0) = true := by simp [hz]
              rw [if_neg hz] at HY
              obtain rfl := HY.out
              clear hz
              go_wp2_with (first
                | (go_at_call 39; refine HE.out.mono ?_; rintro r w3 ⟨rfl, rfl⟩)
                | (go_at_call 35; refine HEn.out.mono ?_; rintro r w3 ⟨rfl, rfl⟩))
              go_ret2
              exact ⟨none, 0, rfl, Own.nil _ _ _ _ _, HR.out.2.1⟩
        · obtain rfl := HR.out.2.2.2.2.done (.inl hlt2)
          have hge : ¬ (xs.length : Int) < (n : Int) := by omega
          simp only at HY
          by_cases hz : rdEnd s' e' = 0
          · have hzb : (rdEnd s' e' != 0) = false := by simp [hz]
            rw [if_pos hz] at HY
            obtain rfl := HY.out
            clear hz
            go_wp2_with (first
              | (go_at_call 39; refine HE.out.mono ?_; rintro r w3 ⟨rfl, rfl⟩)
              | (go_at_call 35; refine HEn.out.mono ?_; rintro r w3 ⟨rfl, rfl⟩))
            go_ret2
            exact ⟨_, _, rfl, HR.out.2.2.2.1.mono (by omega), HR.out.2.1⟩
          · have hzb : (rdEnd s' e' != 0) = true := by simp [hz]
            rw [if_neg hz] at HY
            obtain rfl := HY.out
            clear hz
            go_wp2_with (first
              | (go_at_call 39; refine HE.out.mono ?_; rintro r w3 ⟨rfl, rfl⟩)
              | (go_at_call 35; refine HEn.out.mono ?_; rintro r w3 ⟨rfl, rfl⟩))
            go_ret2
            exact ⟨none, 0, rfl, Own.nil _ _ _ _ _, HR.out.2.1⟩
end Go.Proofs.Ytlkkgnidcgochaa
