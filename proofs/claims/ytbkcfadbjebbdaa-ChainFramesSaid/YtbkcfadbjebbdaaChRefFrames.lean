/- Layer 9: the frames of a value, by the document. -/
import Derived.Test.YtbkcfadbjebbdaaChWalk1
import Derived.Test.YtbkcfadbjebbdaaOpen
import Derived.Test.YtbkcfadbjebbdaaOwn2
namespace Go.Proofs.Ytbkcfadbjebbdaa
open Go.RowKit
set_option linter.unusedVariables false
set_option linter.unusedSimpArgs false
set_option maxRecDepth 100000
set_option maxHeartbeats 4000000
theorem ch_refframes_info : (Try.prog.info? 65).map (fun i => (i.zero, i.size, i.bytes)) = some (some (.agg #[.int .u8 0, .int .u16 0, .int .u32 0, .int .u64 0, .string { data := #[] }]), 5, 32) := by kernel_rfl
theorem ch_refframes (A : Option Addr) (cap : Nat) (ids : List Nat) (hcap : ids.length ≤ cap) (hcm : cap ≤ maxLen) (hl : ids.length ≤ 40) (hi : ∀ x ∈ ids, x < 4294967296) (tx : Nat) (htx : U64 tx) (l : List UInt8) (hlz : l.length ≤ 100000) (w : World) (hs : SliceAt w A 1 u32Cell ids) :
    Calls Try.prog 27 #[.slice A ids.length cap, .int .u64 (tx : Nat), .string (B l)] w fun r w' => ∃ A' cap', r = .returned (.tuple #[.slice A' (chOut ids l).length cap', .int .i64 (chErr ids l)]) ∧ Own w' w.heap.size 65 5 (frCell tx) A' cap' (chOut ids l) ∧ Gr w w' := by
  obtain ⟨ii, hii, hz0, hz1, hz2⟩ := info_parts ch_refframes_info
  unfold maxLen at hcm
  have hz : (B l).size = l.length := B_size l
  by_cases h1 : 65536 < l.length
  · have he : chErr ids l = 5 := by unfold chErr; rw [if_pos h1]
    have ho : chOut ids l = [] := by unfold chOut; rw [if_neg (by omega)]
    rw [he, ho]
    have h1' : (65536 : Int) < (l.length : Int) := by omega
    go_enter Try.func27, Try.ntmps27
    go_wp2
    go_ret2
    exact ⟨none, 0, rfl, Own.nil _ _ _ _ _, Gr.refl _⟩
  · have h1' : ¬ (65536 : Int) < (l.length : Int) := by omega
    have CN := fun w1 => Lib.hid (ch_refneed (l.length : Nat) (by omega) w1)
    by_cases h2 : (ids.length : Int) ≠ chNeed l.length
    · have he : chErr ids l = 2 := by unfold chErr; rw [if_neg h1, if_pos h2]
      have ho : chOut ids l = [] := by unfold chOut; rw [if_neg (by omega)]
      rw [he, ho]
      clear he ho
      have h2' : ((ids.length : Int) != chNeed l.length) = true := by simpa using h2
      generalize chNeed l.length = nd at *
      go_enter Try.func27, Try.ntmps27
      go_wp2_with (go_at_call 29; refine (CN _).out.mono ?_; rintro r v1 ⟨rfl, rfl⟩)
      go_ret2
      exact ⟨none, 0, rfl, Own.nil _ _ _ _ _, Gr.refl _⟩
    · have h2' : ((ids.length : Int) != chNeed l.length) = false := by simpa using h2
      have HE : Hid (chErr ids l = if (∃ x ∈ ids, x < 2) then 2 else 0) := by unfold Hid chErr; rw [if_neg h1, if_neg h2]
      generalize chNeed l.length = nd at *
      clear h2
      have HX := Lib.hid (And.intro hs hi)
      clear hs hi
      have HOt : Hid (chOut ids l = if chErr ids l = 0 then chFrs ids l ids.length else []) := rfl
      generalize chOut ids l = co at *
      generalize chErr ids l = ce at *
      go_enter Try.func27, Try.ntmps27
      go_wp2_with (go_at_call 29; refine (CN _).out.mono ?_; rintro r v1 ⟨rfl, rfl⟩)
      clear CN
      go_loopw [2, 8, 24] (fun v o i wr => ∃ k A' cap', k ≤ ids.length ∧ i = .int .i64 (k : Nat) ∧ o = .slice A' k cap' ∧ v = .string (B (l.drop (k * 4068))) ∧ Hid (Gr w wr ∧ Own wr w.heap.size 65 5 (frCell tx) A' cap' (chFrs ids l k) ∧ ∀ x ∈ ids.take k, 2 ≤ x)) (fun _ _ i _ => ids.length - (intOf i).toNat)
      case atStart => exact ⟨0, none, 0, by omega, rfl, rfl, rfl, Gr.refl _, Own.nil _ _ _ _ _, fun x hx => by simp at hx⟩
      case round =>
        obtain ⟨k, A', cap', hk, rfl, rfl, rfl, HR⟩ := hrel
        have hfl := chFrs_len ids l k
        by_cases hlt : k < ids.length
        · rcases HX.out.1 with h0 | ⟨a, off, rfl, hcell⟩
          · subst h0; simp at hlt
          · have hc0 := HR.out.1.cells (hcell k ids[k] (List.getElem?_eq_getElem hlt) 0 _ rfl)
            simp only [Nat.add_zero, Nat.mul_one] at hc0
            have hx32 := HX.out.2 ids[k] (List.getElem_mem hlt)
            by_cases hx2 : ids[k] < 2
            · have he2 : ce = 2 := by rw [HE.out, if_pos ⟨ids[k], List.getElem_mem hlt, hx2⟩]
              obtain rfl : co = [] := by rw [HOt.out, if_neg (by omega)]
              subst he2
              clear HE HOt hcell
              generalize ids[k] = x at *
              have hx2' : (x : Int) < 2 := by omega
              go_wp2
              go_ret2
              exact ⟨none, 0, rfl, Own.nil _ _ _ _ _, HR.out.1⟩
            · have hx2' : ¬ ((ids[k] : Nat) : Int) < 2 := by omega
              have HTK : Hid (∀ x ∈ ids.take (k + 1), 2 ≤ x) := by
                intro x hx
                rw [List.take_succ_eq_append_getElem hlt] at hx
                rcases List.mem_append.1 hx with hx | hx
                · exact HR.out.2.2 x hx
                · simp only [List.mem_singleton] at hx; omega
              have HFR : Hid (chFr ids l k = (k, ids[k], B (Oct.be (chNext ids k) 4) ++ B (chPart l k))) := by
                unfold Hid chFr
                rw [List.getD_eq_getElem?_getD, List.getElem?_eq_getElem hlt]; rfl
              have cw : IntKind.u16.wrap (k : Int) = (k : Int) := Oct.conv16 k (by omega)
              obtain ⟨y, hy, hy32, hcase⟩ : ∃ y : Nat, chNext ids k = y ∧ y < 4294967296 ∧ ((k + 1 < ids.length ∧ wr.cell? ⟨a, off + (k + 1), none⟩ = some (.int .u32 (y : Nat))) ∨ (¬ k + 1 < ids.length ∧ y = 0)) := by
                by_cases hn : k + 1 < ids.length
                · have hc1 := HR.out.1.cells (hcell (k + 1) ids[k + 1] (List.getElem?_eq_getElem hn) 0 _ rfl)
                  simp only [Nat.add_zero, Nat.mul_one] at hc1
                  refine ⟨ids[k + 1], ?_, HX.out.2 _ (List.getElem_mem hn), .inl ⟨hn, hc1⟩⟩
                  unfold chNext
                  rw [List.getD_eq_getElem?_getD, List.getElem?_eq_getElem hn]; rfl
                · refine ⟨0, ?_, by omega, .inr ⟨hn, rfl⟩⟩
                  unfold chNext
                  rw [List.getD_eq_getElem?_getD, List.getElem?_eq_none (by omega)]; rfl
              rw [hy] at HFR
              have z4 := B_be_size y 4
              have zp : (B (chPart l k)).size ≤ 4068 := by rw [B_size]; exact chPart_len l k
              have HCH := Lib.hid hcell
              clear hcell
              generalize ids[k] = x at *
              have c64 : IntKind.u64.wrap (y : Int) = (y : Int) := wrap_u64_of y (by unfold U64; omega)
              have CF := fun w1 => Lib.hid (ref_big y (by unfold U64; omega) 4 (by omega) w1)
              have HN1 := chRest_part l k
              have HN2 := chRest_all l k
              have HN3 := chRest_next l k
              have zr : (B (l.drop (k * 4068))).size = (l.drop (k * 4068)).length := B_size _
              have zq : (B (chPart l k)).size = (chPart l k).length := B_size _
              have hpl : (chPart l k).length = min 4068 (l.drop (k * 4068)).length := by unfold chPart; rw [List.length_take]
              generalize l.drop (k * 4068) = lr at *
              obtain ⟨ln, hln⟩ : ∃ ln, ln = l.drop ((k + 1) * 4068) := ⟨_, rfl⟩
              rw [← hln] at HN3
              have HLN := Lib.hid hln
              clear hln
              generalize chPart l k = lp at *
              generalize B (Oct.be y 4) = g4 at *
              by_cases hc : 4068 < lr.length
              · have hb : (4068 : Int) < (lr.length : Int) := by omega
                have hp0 := HN1 hc
                have HNX : (B lr).extract 4068 lr.length = B ln := by rw [← HN3, hpl, Nat.min_eq_left (by omega)]
                have hpz : (B lp).size = 4068 := by rw [zq, hpl, Nat.min_eq_left (by omega)]
                clear HN1 HN2 HN3 zq hpl
                have hno : ¬ (9223372036854775807 < 4 + (B lp).size) := by omega
                rcases hcase with ⟨hn, hc1⟩ | ⟨hn, rfl⟩
                · have hn' : (k : Int) + 1 < (ids.length : Int) := by omega
                  go_wp2_with (first
                  | (go_at_call 89; refine (CF _).out.mono ?_; rintro r v4 ⟨rfl, hg⟩; have HG4 : Hid (Gr wr v4) := hg; clear hg; have HO := Lib.hid ((HR.out.2.1.gr HG4.out).gr ((Gr.refl v4).alloc (.cells #[.int .u8 4, .int .u16 (k : Nat), .int .u32 (x : Nat), .int .u64 (tx : Nat), .string (g4 ++ B lp)] 65))); have HO2 : Hid ((v4.alloc (.cells #[.int .u8 4, .int .u16 (k : Nat), .int .u32 (x : Nat), .int .u64 (tx : Nat), .string (g4 ++ B lp)] 65)).ownsRow w.heap.size 65 5 (.slice A' k cap') k ((chFrs ids l k).flatMap (frCell tx))) := (by have h := HO.out; unfold Own at h; rw [hfl] at h; exact h); have HZ : Hid (v4.heap.size < (v4.alloc (.cells #[.int .u8 4, .int .u16 (k : Nat), .int .u32 (x : Nat), .int .u64 (tx : Nat), .string (g4 ++ B lp)] 65)).heap.size ∧ w.heap.size ≤ v4.heap.size) := ⟨by rw [alloc_size]; omega, Nat.le_trans HR.out.1.size HG4.out.size⟩)
                  | (at_builtin; refine wpList_append_lies _ rfl _ _ 60 rfl w.heap.size 65 ii _ 5 32 Try.underlying60 hii hz0 hz1 hz2 rfl (by omega) (.slice A' k cap') k ((chFrs ids l k).flatMap (frCell tx)) rfl HO2.out ⟨v4.heap.size, 0, none⟩ 1 1 (frCell tx (k, x, g4 ++ B lp)) rfl rfl (World.news_of_block (cs := #[.int .u8 4, .int .u16 (k : Nat), .int .u32 (x : Nat), .int .u64 (tx : Nat), .string (g4 ++ B lp)]) (heap_alloc_last v4 _)) (fun u hu => by simp [frCell] at hu; rcases hu with rfl | rfl | rfl | rfl | rfl <;> rfl) (by omega) (by unfold maxLen; omega) (by omega) (by have := HZ.out; omega) _ rfl ?_; intro gg cc v5 hown hgrow hat hlt5))
                  have HT : Hid (Gr w v5 ∧ Own v5 w.heap.size 65 5 (frCell tx) (some ⟨gg, 0, none⟩) cc (chFrs ids l (k + 1)) ∧ ∀ x ∈ ids.take (k + 1), 2 ≤ x) := by
                    refine ⟨HO.out.grown hgrow ((HR.out.1.trans HG4.out).alloc _) (Nat.le_refl _), ?_, HTK.out⟩
                    rw [chFrs_succ, HFR.out]
                    exact Own.push _ (by rw [hfl]; exact hown)
                  clear hown hgrow hat HO HO2 HZ HG4
                  go_roundw
                  case rel => exact ⟨k + 1, _, _, by omega, by go_num, by go_num, (by rw [← HLN.out] <;> first | done | (congr 1; rw [← HNX]; apply ByteArray.ext; simp)), HT⟩
                  case measure => simp [intOf]; omega
                · have hn' : ¬ (k : Int) + 1 < (ids.length : Int) := by omega
                  have e0 : ((0 : Nat) : Int) = 0 := rfl
                  simp only [e0] at CF
                  go_wp2_with (first
                  | (go_at_call 89; refine (CF _).out.mono ?_; rintro r v4 ⟨rfl, hg⟩; have HG4 : Hid (Gr wr v4) := hg; clear hg; have HO := Lib.hid ((HR.out.2.1.gr HG4.out).gr ((Gr.refl v4).alloc (.cells #[.int .u8 4, .int .u16 (k : Nat), .int .u32 (x : Nat), .int .u64 (tx : Nat), .string (g4 ++ B lp)] 65))); have HO2 : Hid ((v4.alloc (.cells #[.int .u8 4, .int .u16 (k : Nat), .int .u32 (x : Nat), .int .u64 (tx : Nat), .string (g4 ++ B lp)] 65)).ownsRow w.heap.size 65 5 (.slice A' k cap') k ((chFrs ids l k).flatMap (frCell tx))) := (by have h := HO.out; unfold Own at h; rw [hfl] at h; exact h); have HZ : Hid (v4.heap.size < (v4.alloc (.cells #[.int .u8 4, .int .u16 (k : Nat), .int .u32 (x : Nat), .int .u64 (tx : Nat), .string (g4 ++ B lp)] 65)).heap.size ∧ w.heap.size ≤ v4.heap.size) := ⟨by rw [alloc_size]; omega, Nat.le_trans HR.out.1.size HG4.out.size⟩)
                  | (at_builtin; refine wpList_append_lies _ rfl _ _ 60 rfl w.heap.size 65 ii _ 5 32 Try.underlying60 hii hz0 hz1 hz2 rfl (by omega) (.slice A' k cap') k ((chFrs ids l k).flatMap (frCell tx)) rfl HO2.out ⟨v4.heap.size, 0, none⟩ 1 1 (frCell tx (k, x, g4 ++ B lp)) rfl rfl (World.news_of_block (cs := #[.int .u8 4, .int .u16 (k : Nat), .int .u32 (x : Nat), .int .u64 (tx : Nat), .string (g4 ++ B lp)]) (heap_alloc_last v4 _)) (fun u hu => by simp [frCell] at hu; rcases hu with rfl | rfl | rfl | rfl | rfl <;> rfl) (by omega) (by unfold maxLen; omega) (by omega) (by have := HZ.out; omega) _ rfl ?_; intro gg cc v5 hown hgrow hat hlt5))
                  have HT : Hid (Gr w v5 ∧ Own v5 w.heap.size 65 5 (frCell tx) (some ⟨gg, 0, none⟩) cc (chFrs ids l (k + 1)) ∧ ∀ x ∈ ids.take (k + 1), 2 ≤ x) := by
                    refine ⟨HO.out.grown hgrow ((HR.out.1.trans HG4.out).alloc _) (Nat.le_refl _), ?_, HTK.out⟩
                    rw [chFrs_succ, HFR.out]
                    exact Own.push _ (by rw [hfl]; exact hown)
                  clear hown hgrow hat HO HO2 HZ HG4
                  go_roundw
                  case rel => exact ⟨k + 1, _, _, by omega, by go_num, by go_num, (by rw [← HLN.out] <;> first | done | (congr 1; rw [← HNX]; apply ByteArray.ext; simp)), HT⟩
                  case measure => simp [intOf]; omega
              · have hb : ¬ (4068 : Int) < (lr.length : Int) := by omega
                have hp0 := HN2 hc
                have HNX : (B lr).extract lr.length lr.length = B ln := by rw [← HN3, hpl, Nat.min_eq_right (by omega)]
                have hpz : (B lp).size = lr.length := by rw [zq, hpl, Nat.min_eq_right (by omega)]
                clear HN1 HN2 HN3 zq hpl
                have hno : ¬ (9223372036854775807 < 4 + (B lp).size) := by omega
                rcases hcase with ⟨hn, hc1⟩ | ⟨hn, rfl⟩
                · have hn' : (k : Int) + 1 < (ids.length : Int) := by omega
                  go_wp2_with (first
                  | (go_at_call 89; refine (CF _).out.mono ?_; rintro r v4 ⟨rfl, hg⟩; have HG4 : Hid (Gr wr v4) := hg; clear hg; have HO := Lib.hid ((HR.out.2.1.gr HG4.out).gr ((Gr.refl v4).alloc (.cells #[.int .u8 4, .int .u16 (k : Nat), .int .u32 (x : Nat), .int .u64 (tx : Nat), .string (g4 ++ B lp)] 65))); have HO2 : Hid ((v4.alloc (.cells #[.int .u8 4, .int .u16 (k : Nat), .int .u32 (x : Nat), .int .u64 (tx : Nat), .string (g4 ++ B lp)] 65)).ownsRow w.heap.size 65 5 (.slice A' k cap') k ((chFrs ids l k).flatMap (frCell tx))) := (by have h := HO.out; unfold Own at h; rw [hfl] at h; exact h); have HZ : Hid (v4.heap.size < (v4.alloc (.cells #[.int .u8 4, .int .u16 (k : Nat), .int .u32 (x : Nat), .int .u64 (tx : Nat), .string (g4 ++ B lp)] 65)).heap.size ∧ w.heap.size ≤ v4.heap.size) := ⟨by rw [alloc_size]; omega, Nat.le_trans HR.out.1.size HG4.out.size⟩)
                  | (at_builtin; refine wpList_append_lies _ rfl _ _ 60 rfl w.heap.size 65 ii _ 5 32 Try.underlying60 hii hz0 hz1 hz2 rfl (by omega) (.slice A' k cap') k ((chFrs ids l k).flatMap (frCell tx)) rfl HO2.out ⟨v4.heap.size, 0, none⟩ 1 1 (frCell tx (k, x, g4 ++ B lp)) rfl rfl (World.news_of_block (cs := #[.int .u8 4, .int .u16 (k : Nat), .int .u32 (x : Nat), .int .u64 (tx : Nat), .string (g4 ++ B lp)]) (heap_alloc_last v4 _)) (fun u hu => by simp [frCell] at hu; rcases hu with rfl | rfl | rfl | rfl | rfl <;> rfl) (by omega) (by unfold maxLen; omega) (by omega) (by have := HZ.out; omega) _ rfl ?_; intro gg cc v5 hown hgrow hat hlt5))
                  have HT : Hid (Gr w v5 ∧ Own v5 w.heap.size 65 5 (frCell tx) (some ⟨gg, 0, none⟩) cc (chFrs ids l (k + 1)) ∧ ∀ x ∈ ids.take (k + 1), 2 ≤ x) := by
                    refine ⟨HO.out.grown hgrow ((HR.out.1.trans HG4.out).alloc _) (Nat.le_refl _), ?_, HTK.out⟩
                    rw [chFrs_succ, HFR.out]
                    exact Own.push _ (by rw [hfl]; exact hown)
                  clear hown hgrow hat HO HO2 HZ HG4
                  go_roundw
                  case rel => exact ⟨k + 1, _, _, by omega, by go_num, by go_num, (by rw [← HLN.out] <;> first | done | (congr 1; rw [← HNX]; apply ByteArray.ext; simp)), HT⟩
                  case measure => simp [intOf]; omega
                · have hn' : ¬ (k : Int) + 1 < (ids.length : Int) := by omega
                  have e0 : ((0 : Nat) : Int) = 0 := rfl
                  simp only [e0] at CF
                  go_wp2_with (first
                  | (go_at_call 89; refine (CF _).out.mono ?_; rintro r v4 ⟨rfl, hg⟩; have HG4 : Hid (Gr wr v4) := hg; clear hg; have HO := Lib.hid ((HR.out.2.1.gr HG4.out).gr ((Gr.refl v4).alloc (.cells #[.int .u8 4, .int .u16 (k : Nat), .int .u32 (x : Nat), .int .u64 (tx : Nat), .string (g4 ++ B lp)] 65))); have HO2 : Hid ((v4.alloc (.cells #[.int .u8 4, .int .u16 (k : Nat), .int .u32 (x : Nat), .int .u64 (tx : Nat), .string (g4 ++ B lp)] 65)).ownsRow w.heap.size 65 5 (.slice A' k cap') k ((chFrs ids l k).flatMap (frCell tx))) := (by have h := HO.out; unfold Own at h; rw [hfl] at h; exact h); have HZ : Hid (v4.heap.size < (v4.alloc (.cells #[.int .u8 4, .int .u16 (k : Nat), .int .u32 (x : Nat), .int .u64 (tx : Nat), .string (g4 ++ B lp)] 65)).heap.size ∧ w.heap.size ≤ v4.heap.size) := ⟨by rw [alloc_size]; omega, Nat.le_trans HR.out.1.size HG4.out.size⟩)
                  | (at_builtin; refine wpList_append_lies _ rfl _ _ 60 rfl w.heap.size 65 ii _ 5 32 Try.underlying60 hii hz0 hz1 hz2 rfl (by omega) (.slice A' k cap') k ((chFrs ids l k).flatMap (frCell tx)) rfl HO2.out ⟨v4.heap.size, 0, none⟩ 1 1 (frCell tx (k, x, g4 ++ B lp)) rfl rfl (World.news_of_block (cs := #[.int .u8 4, .int .u16 (k : Nat), .int .u32 (x : Nat), .int .u64 (tx : Nat), .string (g4 ++ B lp)]) (heap_alloc_last v4 _)) (fun u hu => by simp [frCell] at hu; rcases hu with rfl | rfl | rfl | rfl | rfl <;> rfl) (by omega) (by unfold maxLen; omega) (by omega) (by have := HZ.out; omega) _ rfl ?_; intro gg cc v5 hown hgrow hat hlt5))
                  have HT : Hid (Gr w v5 ∧ Own v5 w.heap.size 65 5 (frCell tx) (some ⟨gg, 0, none⟩) cc (chFrs ids l (k + 1)) ∧ ∀ x ∈ ids.take (k + 1), 2 ≤ x) := by
                    refine ⟨HO.out.grown hgrow ((HR.out.1.trans HG4.out).alloc _) (Nat.le_refl _), ?_, HTK.out⟩
                    rw [chFrs_succ, HFR.out]
                    exact Own.push _ (by rw [hfl]; exact hown)
                  clear hown hgrow hat HO HO2 HZ HG4
                  go_roundw
                  case rel => exact ⟨k + 1, _, _, by omega, by go_num, by go_num, (by rw [← HLN.out] <;> first | done | (congr 1; rw [← HNX]; apply ByteArray.ext; simp)), HT⟩
                  case measure => simp [intOf]; omega
        · obtain rfl : k = ids.length := by omega
          have he0 : ce = 0 := by
            rw [HE.out, if_neg]
            rintro ⟨x, hx, hx2⟩
            have := HR.out.2.2 x (by rw [List.take_length]; exact hx)
            omega
          obtain rfl : co = chFrs ids l ids.length := by rw [HOt.out, if_pos he0]
          subst he0
          clear HE HOt
          go_wp2
          go_ret2
          exact ⟨_, _, (by rw [hfl]; rfl), HR.out.2.1, HR.out.1⟩
end Go.Proofs.Ytbkcfadbjebbdaa
