/- Layer 19: numbers of two bytes: two of them, read. -/
import Derived.Test.YtncbbaieoehbjaaRecTwR
import Derived.Test.YtncbbaieoehbjaaOpen
import Derived.Test.YtncbbaieoehbjaaOwn2
namespace Go.Proofs.Ytncbbaieoehbjaa
open Go.RowKit
set_option linter.unusedVariables false
set_option linter.unusedSimpArgs false
set_option maxRecDepth 100000
set_option maxHeartbeats 2000000
theorem u16_info : (Try.prog.info? 46).map (fun i => (i.zero, i.size, i.bytes)) = some (some (.int .u16 0), 1, 2) := by kernel_rfl
theorem tw_readlist (b1 b2 : Nat) (s : ByteArray) (hs : s.size ≤ 1000000) (xs : List Nat) (hx2 : xs.length = 2) (st : Nat → ByteArray) (h0 : rdNum s 0 4 = (xs.length, st 0, 0)) (hk : ∀ k x, xs[k]? = some x → rdTw (st k) 0 = (x, st (k + 1), 0)) (hsz : ∀ k, (st k).size ≤ 1000000) (hend : (st xs.length).size = 0)
    (w : World) (hb1 : w.cell? ⟨b1, 0, none⟩ = some (.func (.func 22) #[] #[])) (hb2 : w.cell? ⟨b2, 0, none⟩ = some (.func (.func 23) #[] #[])) :
    Calls Try.prog 26 #[.agg #[.func (.func 73) #[] #[.pointer (some ⟨b1, 0, none⟩)], .func (.func 75) #[] #[.pointer (some ⟨b2, 0, none⟩)]], .string s, .int .i64 2] w fun r w' => ∃ A cap, r = .returned (.tuple #[.slice A xs.length cap, .int .i64 0]) ∧ Own w' w.heap.size 46 1 u16Cell A cap xs ∧ Gr w w' := by
  have hn1 := tw_eq2
  obtain ⟨ii, hi, hz0, hz1, hz2⟩ := info_parts u16_info
  have HBB := Lib.hid (And.intro (block_lt_of_cell hb2) hb2)
  clear hb1 hb2
  have hsm : s.size ≤ maxLen := by unfold maxLen; omega
  have HF := fun b w1 h => Lib.hid (oct_rdfour b s hsm 0 w1 h)
  rw [h0] at HF
  simp only at HF
  have c0 : IntKind.u64.wrap (xs.length : Int) = (xs.length : Int) := wrap_u64_of _ (by unfold U64; omega)
  have hq : ¬ (2 : Int) < (xs.length : Int) := by omega
  have hq2 : (xs.length : Int) ≤ 2 := by omega
  have HEND : Hid (rdEnd (st xs.length) 0 = 0) := by unfold Hid rdEnd; rw [if_neg (by simp), if_neg (by omega)]
  have HK := Lib.hid (And.intro hk hsz)
  clear hk hsz hend h0
  have HA := Lib.hid (heap_alloc_last w (.cells #[.func (.func 73) #[] #[.pointer (some ⟨b1, 0, none⟩)], .func (.func 75) #[] #[.pointer (some ⟨b2, 0, none⟩)]] 55))
  have HB : Hid (Gr w (w.alloc (.cells #[.func (.func 73) #[] #[.pointer (some ⟨b1, 0, none⟩)], .func (.func 75) #[] #[.pointer (some ⟨b2, 0, none⟩)]] 55))) := (Gr.refl w).alloc _
  go_enter Try.func26, Try.ntmps26
  go_wp2_with (first
    | (go_at_call 71; refine (oct_over s _).mono ?_; rintro r v1 ⟨rfl, hr0, hg⟩; have hr : RdAt v1 (w.heap.size + 1) s 0 := by { have h := hr0; rw [alloc_size] at h; exact h }; clear hr0)
    | (go_at_call 63; refine (HF _ _ hr).out.mono ?_; rintro r v2 ⟨rfl, hr2, hc2⟩))
  have HV : Hid (RdAt v2 (w.heap.size + 1) (st 0) 0 ∧ Gr w v2 ∧ v2.heap[w.heap.size]? = some (.cells #[.func (.func 73) #[] #[.pointer (some ⟨b1, 0, none⟩)], .func (.func 75) #[] #[.pointer (some ⟨b2, 0, none⟩)]] 55 (0, 0))) := by
    have hl := hr.lt
    refine ⟨hr2, hc2.gr (HB.out.trans hg) (Nat.le_succ _), ?_⟩
    rw [hc2.block _ (by omega) (by omega), hg.block (k := w.heap.size) (by rw [alloc_size]; omega)]
    exact HA.out
  clear hr hr2 hc2 hg HA HB HF
  generalize v2 = V at *
  go_loopw [10, 11] (fun x i wr => ∃ A cap k, k ≤ xs.length ∧ i = .int .u32 (k : Nat) ∧ x = .slice A k cap ∧ Hid (RdAt wr (w.heap.size + 1) (st k) 0 ∧ Gr w wr ∧ wr.heap[w.heap.size]? = some (.cells #[.func (.func 73) #[] #[.pointer (some ⟨b1, 0, none⟩)], .func (.func 75) #[] #[.pointer (some ⟨b2, 0, none⟩)]] 55 (0, 0)) ∧ Own wr (w.heap.size + 2) 46 1 u16Cell A cap (xs.take k))) (fun _ i _ => xs.length - (intOf i).toNat)
  case atStart => exact ⟨none, 0, 0, by omega, rfl, rfl, HV.out.1, HV.out.2.1, HV.out.2.2, Own.nil _ _ _ _ _⟩
  case round =>
    obtain ⟨A, cap, k, hkl, rfl, rfl, HR⟩ := hrel
    have HE := Lib.hid (oct_err _ _ _ _ HR.out.1)
    have hfl : (xs.take k).length = k := by rw [List.length_take]; omega
    by_cases hlt2 : k < xs.length
    · obtain ⟨p0, p1, _, _⟩ := At2.of_row HR.out.2.2.1
      have cw : IntKind.u32.wrap ((k : Int) + 1) = (k : Int) + 1 := by
        have := Oct.conv32 (k + 1) (by omega)
        simpa using this
      have hget := List.getElem?_eq_getElem hlt2
      have HTK : Hid (xs.take (k + 1) = xs.take k ++ [xs[k]]) := List.take_succ_eq_append_getElem hlt2
      have hrd := HK.out.1 k _ hget
      have HG := Lib.hid (tw_vget _ (st k) (by have := HK.out.2 k; unfold maxLen; omega) 0 wr HR.out.1 b2 (HR.out.2.1.cells HBB.out.2) (by have := HBB.out.1; omega))
      rw [hrd] at HG
      simp only at HG
      clear hrd hget
      generalize xs[k] = pn at *
      go_wp2_with (first
        | (go_at_call 80; refine HE.out.mono ?_; rintro r w3 ⟨rfl, rfl⟩)
        | (go_at_call 75; refine HG.out.mono ?_; rintro r v4 ⟨rfl, hr, hc⟩; have HO := Lib.hid ((HR.out.2.2.2.ch hc (fun h => by have := (HR.out.2.2.2.lt h).2; omega)).gr ((Gr.refl v4).alloc (.cells #[.int .u16 (pn : Nat)] 46))); have HO2 : Hid ((v4.alloc (.cells #[.int .u16 (pn : Nat)] 46)).ownsRow (w.heap.size + 2) 46 1 (.slice A k cap) k ((xs.take k).flatMap u16Cell)) := (by have h := HO.out; unfold Own at h; rw [hfl] at h; exact h); have HZ : Hid (v4.heap.size < (v4.alloc (.cells #[.int .u16 (pn : Nat)] 46)).heap.size ∧ w.heap.size + 2 ≤ v4.heap.size) := ⟨by rw [alloc_size]; omega, by have := HR.out.1.lt; have := hc.size; omega⟩)
        | (at_builtin; refine wpList_append_lies _ rfl _ _ 61 rfl (w.heap.size + 2) 46 ii _ 1 2 Try.underlying61 hi hz0 hz1 hz2 rfl (by omega) (.slice A k cap) k ((xs.take k).flatMap u16Cell) rfl HO2.out ⟨v4.heap.size, 0, none⟩ 1 1 (u16Cell pn) rfl rfl (World.news_of_block (cs := #[.int .u16 (pn : Nat)]) (heap_alloc_last v4 _)) (fun u hu => by simp [u16Cell] at hu; rcases hu with rfl; rfl) (by omega) (by unfold maxLen; omega) (by omega) (by have := HZ.out; omega) _ rfl ?_; intro gg cc v5 hown hgrow hat hlt5))
      have HBK : Hid (∀ j, j < w.heap.size + 2 → v5.heap[j]? = (v4.alloc (.cells #[.int .u16 (pn : Nat)] 46)).heap[j]?) := fun j hj => hgrow.block j (by have := HZ.out; omega) (fun he => by
        rw [ownOf_eq] at he
        have := (HO.out.lt he.symm).2; omega)
      have HT : Hid (RdAt v5 (w.heap.size + 1) (st (k + 1)) 0 ∧ Gr w v5 ∧ v5.heap[w.heap.size]? = some (.cells #[.func (.func 73) #[] #[.pointer (some ⟨b1, 0, none⟩)], .func (.func 75) #[] #[.pointer (some ⟨b2, 0, none⟩)]] 55 (0, 0)) ∧ Own v5 (w.heap.size + 2) 46 1 u16Cell (some ⟨gg, 0, none⟩) cc (xs.take (k + 1))) := by
        refine ⟨(hr.gr ((Gr.refl v4).alloc _)).of_block (HBK.out _ (by omega)), HO.out.grown hgrow ((hc.gr HR.out.2.1 (Nat.le_succ _)).alloc _) (by omega), ?_, ?_⟩
        · rw [HBK.out _ (by omega), ((Gr.refl v4).alloc _ |>.block (k := w.heap.size) (by have := HZ.out.2; omega)), hc.block _ (by have := HR.out.1.lt; omega) (by omega)]
          exact HR.out.2.2.1
        · rw [HTK.out]
          exact Own.push _ (by rw [hfl]; exact hown)
      clear HBK hown hgrow hat hr hc HO HO2 HZ
      go_roundw
      case rel => exact ⟨_, _, k + 1, by omega, by go_num, by go_num, HT⟩
      case measure => simp [intOf]; omega
    · obtain rfl : k = xs.length := by omega
      have hge : ¬ (xs.length : Int) < (xs.length : Int) := by omega
      have HEn := Lib.hid (oct_end _ _ _ _ HR.out.1)
      rw [HEND.out] at HEn
      have HOW := Lib.hid HR.out.2.2.2
      rw [List.take_length] at HOW
      go_wp2_with (first
        | (go_at_call 80; refine HE.out.mono ?_; rintro r w3 ⟨rfl, rfl⟩)
        | (go_at_call 72; refine HEn.out.mono ?_; rintro r w3 ⟨rfl, rfl⟩))
      go_ret2
      exact ⟨_, _, (by rw [hx2]; rfl), HOW.out.mono (by omega), HR.out.2.1⟩
end Go.Proofs.Ytncbbaieoehbjaa
