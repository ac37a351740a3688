/- Layer 6: what its laws call (printed by sllaw_gen.py). -/
import Derived.Test.YtbkcfadbjebbdaaSlLaw0
import Derived.Test.YtbkcfadbjebbdaaSl5L
import Derived.Test.YtbkcfadbjebbdaaSl5K
import Derived.Test.YtbkcfadbjebbdaaOwn2
namespace Go.Proofs.Ytbkcfadbjebbdaa
open Go.RowKit
set_option linter.unusedVariables false
set_option linter.unusedSimpArgs false
set_option maxRecDepth 100000
set_option maxHeartbeats 4000000
def kiOf (x : Ce) : Ki := (x.1, x.2.2.1)
def ceOf (x : Ki) : Ce := (x.1, .empty, x.2, 0)
theorem sl_info_ki : (Try.prog.info? 47).map (fun i => (i.zero, i.size, i.bytes)) = some (some (.agg #[.string { data := #[] }, .int .u32 0]), 2, 24) := by kernel_rfl
theorem sl_info_ce : (Try.prog.info? 42).map (fun i => (i.zero, i.size, i.bytes)) = some (some (.agg #[.string { data := #[] }, .string { data := #[] }, .int .u32 0, .int .u32 0]), 4, 40) := by kernel_rfl
theorem law_kids (A : Option Addr) (cap : Nat) (xs : List Ce) (hcap : xs.length ≤ cap) (hcm : cap ≤ maxLen) (hl : xs.length ≤ 4000) (w : World) (hs : SliceAt w A 4 ceCell xs) :
    Calls Try.prog 19 #[.slice A xs.length cap] w fun r w' => ∃ A' cap', r = .returned (.slice A' (xs.map kiOf).length cap') ∧ Own w' w.heap.size 47 2 kiCell A' cap' (xs.map kiOf) ∧ Gr w w' := by
  unfold maxLen at hcm
  obtain ⟨ii, hii, hz0, hz1, hz2⟩ := info_parts sl_info_ki
  have HX := Lib.hid hs
  clear hs
  go_enter Try.func19, Try.ntmps19
  go_wp2
  go_loopw [3, 8] (fun v i wr => ∃ (k : Nat) (A' : Option Addr) (cap' : Nat), k ≤ xs.length ∧ i = .int .i64 (k : Nat) ∧ v = .slice A' k cap' ∧ Hid (Gr w wr ∧ Own wr w.heap.size 47 2 kiCell A' cap' ((xs.take k).map kiOf))) (fun _ i _ => xs.length - (intOf i).toNat)
  case atStart => exact ⟨0, none, 0, by omega, rfl, rfl, Gr.refl _, Own.nil _ _ _ _ _⟩
  case round =>
    obtain ⟨k, A', cap', hk, rfl, rfl, HR⟩ := hrel
    by_cases hlt : k < xs.length
    · rcases HX.out with h0 | ⟨a, off, rfl, hcell⟩
      · subst h0; simp at hlt
      · have hget := List.getElem?_eq_getElem hlt
        have HTK : Hid ((xs.take (k + 1)).map kiOf = (xs.take k).map kiOf ++ [kiOf xs[k]]) := by unfold Hid; rw [List.take_succ_eq_append_getElem hlt, List.map_append]; rfl
        have hlk : ((xs.take k).map kiOf).length = k := by rw [List.length_map, List.length_take]; omega
        generalize xs[k] = x at *
        obtain ⟨e0, e1, e2, e3⟩ := x
        have a0 := HR.out.1.cells (hcell k _ hget 0 _ rfl)
        have a1 := HR.out.1.cells (hcell k _ hget 1 _ rfl)
        have a2 := HR.out.1.cells (hcell k _ hget 2 _ rfl)
        have a3 := HR.out.1.cells (hcell k _ hget 3 _ rfl)
        simp only [Nat.add_zero] at a0
        have HC := Lib.hid (And.intro hcell hget)
        clear hcell hget
        obtain ⟨ys, hys⟩ : ∃ ys, ys = (xs.take k).map kiOf := ⟨_, rfl⟩
        rw [← hys] at HR HTK hlk
        have HYS := Lib.hid hys
        clear hys
        subst hlk
        have HENC : Hid (kiCell (kiOf (e0, e1, e2, e3)) = [.string e0, .int .u32 (e2 : Nat)]) := rfl
        have HO := Lib.hid ((HR.out.2.gr ((Gr.refl wr).alloc (.cells #[.string e0, .string e1, .int .u32 (e2 : Nat), .int .u32 (e3 : Nat)] 42))).gr ((Gr.refl _).alloc (.cells #[.string e0, .int .u32 (e2 : Nat)] 47)))
        have HG : Hid (Gr w ((wr.alloc (.cells #[.string e0, .string e1, .int .u32 (e2 : Nat), .int .u32 (e3 : Nat)] 42)).alloc (.cells #[.string e0, .int .u32 (e2 : Nat)] 47))) := (HR.out.1.alloc _).alloc _
        have HN := Lib.hid (heap_alloc_last (wr.alloc (.cells #[.string e0, .string e1, .int .u32 (e2 : Nat), .int .u32 (e3 : Nat)] 42)) (.cells #[.string e0, .int .u32 (e2 : Nat)] 47))
        have HZ : Hid (w.heap.size ≤ ((wr.alloc (.cells #[.string e0, .string e1, .int .u32 (e2 : Nat), .int .u32 (e3 : Nat)] 42)).alloc (.cells #[.string e0, .int .u32 (e2 : Nat)] 47)).heap.size) := HG.out.size
        rw [alloc_size] at HN
        go_wp2_with (at_builtin; refine wpList_append_lies _ rfl _ _ 48 rfl w.heap.size 47 ii _ 2 24 Try.underlying48 hii hz0 hz1 hz2 rfl (by omega) (.slice A' ys.length cap') ys.length (ys.flatMap kiCell) rfl HO.out ⟨wr.heap.size + 1, 0, none⟩ 1 1 [.string e0, .int .u32 (e2 : Nat)] rfl rfl (World.news_of_block (cs := #[.string e0, .int .u32 (e2 : Nat)]) HN.out) (fun u hu => by simp at hu; rcases hu with rfl | rfl <;> rfl) (by omega) (by unfold maxLen; omega) (by omega) HZ.out _ rfl ?_; intro gg cc v5 hown hgrow hat hlt5)
        have HT : Hid (Gr w v5 ∧ Own v5 w.heap.size 47 2 kiCell (some ⟨gg, 0, none⟩) cc ((xs.take (ys.length + 1)).map kiOf)) := by
          refine ⟨HO.out.grown hgrow HG.out (Nat.le_refl _), ?_⟩
          rw [HTK.out]
          exact Own.push _ (by rw [HENC.out]; exact hown)
        clear hown hgrow hat HO HZ HN HG
        go_roundw
        case rel => exact ⟨ys.length + 1, _, _, by omega, by go_num, by go_num, HT⟩
        case measure => simp [intOf]; omega
    · obtain rfl : k = xs.length := by omega
      rw [List.take_length] at HR
      go_wp2
      go_ret
      exact ⟨_, _, by rw [List.length_map]; rfl, HR.out.2, HR.out.1⟩
theorem law_cells (A : Option Addr) (cap : Nat) (xs : List Ki) (hcap : xs.length ≤ cap) (hcm : cap ≤ maxLen) (hl : xs.length ≤ 4000) (w : World) (hs : SliceAt w A 2 kiCell xs) :
    Calls Try.prog 49 #[.slice A xs.length cap] w fun r w' => ∃ A' cap', r = .returned (.slice A' (xs.map ceOf).length cap') ∧ Own w' w.heap.size 42 4 ceCell A' cap' (xs.map ceOf) ∧ Gr w w' := by
  unfold maxLen at hcm
  obtain ⟨ii, hii, hz0, hz1, hz2⟩ := info_parts sl_info_ce
  have HX := Lib.hid hs
  clear hs
  go_enter Try.func49, Try.ntmps49
  go_wp2
  go_loopw [3, 8] (fun v i wr => ∃ (k : Nat) (A' : Option Addr) (cap' : Nat), k ≤ xs.length ∧ i = .int .i64 (k : Nat) ∧ v = .slice A' k cap' ∧ Hid (Gr w wr ∧ Own wr w.heap.size 42 4 ceCell A' cap' ((xs.take k).map ceOf))) (fun _ i _ => xs.length - (intOf i).toNat)
  case atStart => exact ⟨0, none, 0, by omega, rfl, rfl, Gr.refl _, Own.nil _ _ _ _ _⟩
  case round =>
    obtain ⟨k, A', cap', hk, rfl, rfl, HR⟩ := hrel
    by_cases hlt : k < xs.length
    · rcases HX.out with h0 | ⟨a, off, rfl, hcell⟩
      · subst h0; simp at hlt
      · have hget := List.getElem?_eq_getElem hlt
        have HTK : Hid ((xs.take (k + 1)).map ceOf = (xs.take k).map ceOf ++ [ceOf xs[k]]) := by unfold Hid; rw [List.take_succ_eq_append_getElem hlt, List.map_append]; rfl
        have hlk : ((xs.take k).map ceOf).length = k := by rw [List.length_map, List.length_take]; omega
        generalize xs[k] = x at *
        obtain ⟨e0, e1⟩ := x
        have a0 := HR.out.1.cells (hcell k _ hget 0 _ rfl)
        have a1 := HR.out.1.cells (hcell k _ hget 1 _ rfl)
        simp only [Nat.add_zero] at a0
        have HC := Lib.hid (And.intro hcell hget)
        clear hcell hget
        obtain ⟨ys, hys⟩ : ∃ ys, ys = (xs.take k).map ceOf := ⟨_, rfl⟩
        rw [← hys] at HR HTK hlk
        have HYS := Lib.hid hys
        clear hys
        subst hlk
        have HENC : Hid (ceCell (ceOf (e0, e1)) = [.string e0, .string { data := #[] }, .int .u32 (e1 : Nat), .int .u32 0]) := rfl
        have HO := Lib.hid ((HR.out.2.gr ((Gr.refl wr).alloc (.cells #[.string e0, .int .u32 (e1 : Nat)] 47))).gr ((Gr.refl _).alloc (.cells #[.string e0, .string { data := #[] }, .int .u32 (e1 : Nat), .int .u32 0] 42)))
        have HG : Hid (Gr w ((wr.alloc (.cells #[.string e0, .int .u32 (e1 : Nat)] 47)).alloc (.cells #[.string e0, .string { data := #[] }, .int .u32 (e1 : Nat), .int .u32 0] 42))) := (HR.out.1.alloc _).alloc _
        have HN := Lib.hid (heap_alloc_last (wr.alloc (.cells #[.string e0, .int .u32 (e1 : Nat)] 47)) (.cells #[.string e0, .string { data := #[] }, .int .u32 (e1 : Nat), .int .u32 0] 42))
        have HZ : Hid (w.heap.size ≤ ((wr.alloc (.cells #[.string e0, .int .u32 (e1 : Nat)] 47)).alloc (.cells #[.string e0, .string { data := #[] }, .int .u32 (e1 : Nat), .int .u32 0] 42)).heap.size) := HG.out.size
        rw [alloc_size] at HN
        go_wp2_with (at_builtin; refine wpList_append_lies _ rfl _ _ 22 rfl w.heap.size 42 ii _ 4 40 Try.underlying22 hii hz0 hz1 hz2 rfl (by omega) (.slice A' ys.length cap') ys.length (ys.flatMap ceCell) rfl HO.out ⟨wr.heap.size + 1, 0, none⟩ 1 1 [.string e0, .string { data := #[] }, .int .u32 (e1 : Nat), .int .u32 0] rfl rfl (World.news_of_block (cs := #[.string e0, .string { data := #[] }, .int .u32 (e1 : Nat), .int .u32 0]) HN.out) (fun u hu => by simp at hu; rcases hu with rfl | rfl | rfl | rfl <;> rfl) (by omega) (by unfold maxLen; omega) (by omega) HZ.out _ rfl ?_; intro gg cc v5 hown hgrow hat hlt5)
        have HT : Hid (Gr w v5 ∧ Own v5 w.heap.size 42 4 ceCell (some ⟨gg, 0, none⟩) cc ((xs.take (ys.length + 1)).map ceOf)) := by
          refine ⟨HO.out.grown hgrow HG.out (Nat.le_refl _), ?_⟩
          rw [HTK.out]
          exact Own.push _ (by rw [HENC.out]; exact hown)
        clear hown hgrow hat HO HZ HN HG
        go_roundw
        case rel => exact ⟨ys.length + 1, _, _, by omega, by go_num, by go_num, HT⟩
        case measure => simp [intOf]; omega
    · obtain rfl : k = xs.length := by omega
      rw [List.take_length] at HR
      go_wp2
      go_ret
      exact ⟨_, _, by rw [List.length_map]; rfl, HR.out.2, HR.out.1⟩
theorem law_bare (A : Option Addr) (cap : Nat) (xs : List Ce) (hcap : xs.length ≤ cap) (hcm : cap ≤ maxLen) (hl : xs.length ≤ 4000) (w : World) (hs : SliceAt w A 4 ceCell xs) :
    Calls Try.prog 20 #[.slice A xs.length cap] w fun r w' => ∃ A' cap', r = .returned (.slice A' ((xs.map kiOf).map ceOf).length cap') ∧ SliceAt w' A' 4 ceCell ((xs.map kiOf).map ceOf) ∧ ((xs.map kiOf).map ceOf).length ≤ cap' ∧ cap' ≤ maxLen ∧ Gr w w' := by
  have cK := Lib.hid (law_kids A cap xs hcap hcm hl w hs)
  have hyl : (xs.map kiOf).length ≤ 4000 := by rw [List.length_map]; exact hl
  clear hs
  generalize xs.map kiOf = ys at *
  have cC := fun A1 cap1 h1 h2 w1 h3 => Lib.hid (law_cells A1 cap1 ys h1 h2 hyl w1 h3)
  generalize ys.map ceOf = zs at *
  go_enter Try.func20, Try.ntmps20
  go_wp2_with (first
    | (go_at_call 19; refine cK.out.mono ?_; clear cK; rintro r v1 ⟨A1, cap1, rfl, hown, hg⟩; have HO := Lib.hid (And.intro hown hg); clear hown hg)
    | (go_at_call 49; refine (cC A1 cap1 HO.out.1.cap_le.1 HO.out.1.cap_le.2 _ (HO.out.1.slice (fun _ => rfl))).out.mono ?_; rintro r v2 ⟨A2, cap2, rfl, hown, hg⟩))
  go_ret
  exact ⟨_, _, rfl, hown.slice (fun _ => rfl), hown.cap_le.1, hown.cap_le.2, HO.out.2.trans hg⟩
end Go.Proofs.Ytbkcfadbjebbdaa
