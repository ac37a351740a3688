/- Layer 4: parts as the document's; the document's text behind a beginning. -/
import Derived.Test.YtckklikfikeokaaDoorOrdW4
namespace Go.Proofs.YtckklikfikeokaaDoor
open Go.RowKit
set_option linter.unusedVariables false
set_option linter.unusedSimpArgs false
set_option maxRecDepth 100000
set_option maxHeartbeats 2000000
theorem or_infoR (_ : Unit) : (Tryd.prog.info? 27).map (fun i => (i.zero, i.size, i.bytes)) = some (some (.agg #[.bool false, .int .u64 0, .string { data := #[] }]), 3, 32) := by kernel_rfl
theorem law_to (A : Option Addr) (cap : Nat) (l : List Pa) (hcap : l.length ≤ cap) (hcm : cap ≤ maxLen) (hl : l.length ≤ 4000) (w : World) (hs : SliceAt w A 3 paCell l) :
    Calls Tryd.prog 23 #[.slice A l.length cap] w fun r w' => ∃ A' cap', r = .returned (.slice A' l.length cap') ∧ Own w' w.heap.size 27 3 paCell A' cap' l ∧ Gr w w' := by
  unfold maxLen at hcm
  obtain ⟨ii, hii, hz0, hz1, hz2⟩ := info_parts (or_infoR ())
  have HX := Lib.hid hs
  clear hs
  go_enter Tryd.func23, Tryd.ntmps23
  go_wp2
  go_loopw [3, 8] (fun v i wr => ∃ (k : Nat) (A' : Option Addr) (cap' : Nat), k ≤ l.length ∧ i = .int .i64 (k : Nat) ∧ v = .slice A' k cap' ∧ Hid (Gr w wr ∧ Own wr w.heap.size 27 3 paCell A' cap' (l.take k))) (fun _ i _ => l.length - (intOf i).toNat)
  case atStart => exact ⟨0, none, 0, by omega, rfl, rfl, Gr.refl _, Own.nil _ _ _ _ _⟩
  case round =>
    obtain ⟨k, A', cap', hk, rfl, rfl, HR⟩ := hrel
    by_cases hlt : k < l.length
    · rcases HX.out with h0 | ⟨a, off, rfl, hcell⟩
      · subst h0; simp at hlt
      have hget := List.getElem?_eq_getElem hlt
      have HTK : Hid (l.take (k + 1) = l.take k ++ [l[k]]) := by unfold Hid; rw [List.take_succ_eq_append_getElem hlt]
      have hlk : (l.take k).length = k := by rw [List.length_take]; omega
      generalize l[k] = x at *
      obtain ⟨e0, e1, e2⟩ := x
      have a0 := HR.out.1.cells (hcell k _ hget 0 _ rfl)
      have a1 := HR.out.1.cells (hcell k _ hget 1 _ rfl)
      have a2 := HR.out.1.cells (hcell k _ hget 2 _ rfl)
      simp only [Nat.add_zero] at a0
      have HC := Lib.hid (And.intro hcell hget)
      clear hcell hget
      obtain ⟨ys, hys⟩ : ∃ ys, ys = l.take k := ⟨_, rfl⟩
      rw [← hys] at HR HTK hlk
      clear hys
      subst hlk
      have HO := Lib.hid ((HR.out.2.gr ((Gr.refl wr).alloc (.cells #[.bool e0, .int .u64 (e1 : Nat), .string e2] 30))).gr ((Gr.refl _).alloc (.cells #[.bool e0, .int .u64 (e1 : Nat), .string e2] 27)))
      have HG : Hid (Gr w ((wr.alloc (.cells #[.bool e0, .int .u64 (e1 : Nat), .string e2] 30)).alloc (.cells #[.bool e0, .int .u64 (e1 : Nat), .string e2] 27))) := (HR.out.1.alloc _).alloc _
      have HN := Lib.hid (heap_alloc_last (wr.alloc (.cells #[.bool e0, .int .u64 (e1 : Nat), .string e2] 30)) (.cells #[.bool e0, .int .u64 (e1 : Nat), .string e2] 27))
      have HZ : Hid (w.heap.size ≤ ((wr.alloc (.cells #[.bool e0, .int .u64 (e1 : Nat), .string e2] 30)).alloc (.cells #[.bool e0, .int .u64 (e1 : Nat), .string e2] 27)).heap.size) := HG.out.size
      rw [alloc_size] at HN
      go_wp2_with (at_builtin; refine wpList_append_lies _ rfl _ _ 29 rfl w.heap.size 27 ii _ 3 32 Tryd.underlying29 hii hz0 hz1 hz2 rfl (by omega) (.slice A' ys.length cap') ys.length (ys.flatMap paCell) rfl HO.out ⟨wr.heap.size + 1, 0, none⟩ 1 1 [.bool e0, .int .u64 (e1 : Nat), .string e2] rfl rfl (World.news_of_block (cs := #[.bool e0, .int .u64 (e1 : Nat), .string e2]) HN.out) (fun u hu => by simp at hu; rcases hu with rfl | rfl | rfl <;> rfl) (by omega) (by unfold maxLen; omega) (by omega) HZ.out _ rfl ?_; intro gg cc v5 hown hgrow hat hlt5)
      have HT : Hid (Gr w v5 ∧ Own v5 w.heap.size 27 3 paCell (some ⟨gg, 0, none⟩) cc (l.take (ys.length + 1))) := by
        refine ⟨HO.out.grown hgrow HG.out (Nat.le_refl _), ?_⟩
        rw [HTK.out]
        exact Own.push (e0, e1, e2) hown
      clear hown hgrow hat HO HZ HN HG
      go_roundw
      case rel => exact ⟨ys.length + 1, _, _, by omega, by go_num, by go_num, HT⟩
      case measure => simp [intOf]; omega
    · obtain rfl : k = l.length := by omega
      rw [List.take_length] at HR
      go_wp2
      go_ret
      exact ⟨_, _, rfl, HR.out.2, HR.out.1⟩
end Go.Proofs.YtckklikfikeokaaDoor
