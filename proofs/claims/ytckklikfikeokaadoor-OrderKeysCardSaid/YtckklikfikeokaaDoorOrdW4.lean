/- Layer 4: what its laws call: light, plain, same. -/
import Derived.Test.YtckklikfikeokaaDoorOrdW3
namespace Go.Proofs.YtckklikfikeokaaDoor
open Go.RowKit
set_option linter.unusedVariables false
set_option linter.unusedSimpArgs false
set_option maxRecDepth 100000
set_option maxHeartbeats 2000000
def paFew (p : Pa) : Prop := p.2.2.size ≤ 400
open Classical in
noncomputable def lightB (l : List Pa) : Bool := decide ((l = [] ∨ l.length ≤ 40) ∧ ∀ p ∈ l, paFew p)
theorem lightB_of {l : List Pa} (h : (l = [] ∨ l.length ≤ 40) ∧ ∀ p ∈ l, paFew p) : lightB l = true := by
  unfold lightB; simp only [decide_eq_true_eq]; exact h
theorem lightB_not {l : List Pa} (h : ¬ ((l = [] ∨ l.length ≤ 40) ∧ ∀ p ∈ l, paFew p)) : lightB l = false := by
  unfold lightB; simp only [decide_eq_false_iff_not]; exact h
theorem lightB_true {l : List Pa} (h : lightB l = true) : l.length ≤ 40 ∧ ∀ p ∈ l, paFew p := by
  by_cases h2 : (l = [] ∨ l.length ≤ 40) ∧ ∀ p ∈ l, paFew p
  · refine ⟨?_, h2.2⟩
    rcases h2.1 with rfl | h
    · simp
    · exact h
  · rw [lightB_not h2] at h; cases h
theorem law_light (A : Option Addr) (cap : Nat) (l : List Pa) (hcap : l.length ≤ cap) (hcm : cap ≤ maxLen) (w : World) (hs : SliceAt w A 3 paCell l) :
    Calls Tryd.prog 15 #[.slice A l.length cap] w fun r w' => r = .returned (.bool (lightB l)) ∧ Gr w w' := by
  unfold maxLen at hcm
  obtain ⟨fb, hfb⟩ : ∃ fb, fb = lightB l := ⟨_, rfl⟩
  rw [← hfb]
  have HF := Lib.hid hfb
  clear hfb
  have HX := Lib.hid hs
  clear hs
  go_enter Tryd.func15, Tryd.ntmps15
  go_wp2
  go_loopw [7] (fun i wr => ∃ k : Nat, k ≤ l.length ∧ i = .int .i64 (k : Nat) ∧ Hid (Gr w wr ∧ (0 < k → l.length ≤ 40) ∧ ∀ p ∈ l.take k, paFew p)) (fun i _ => l.length - (intOf i).toNat)
  case atStart => exact ⟨0, by omega, rfl, Gr.refl _, fun h => by omega, fun x hx => by simp at hx⟩
  case round =>
    obtain ⟨k, hk, rfl, HR⟩ := hrel
    by_cases hlt : k < l.length
    · rcases HX.out with h0 | ⟨a, off, rfl, hcell⟩
      · subst h0; simp at hlt
      have hget := List.getElem?_eq_getElem hlt
      have htk : ∀ x, l[k] = x → paFew x → (∀ p ∈ l.take k, paFew p) → ∀ p ∈ l.take (k + 1), paFew p := by
        intro y hy hf h1 x hx
        rw [List.take_succ_eq_append_getElem hlt] at hx
        rcases List.mem_append.1 hx with hx | hx
        · exact h1 x hx
        · simp only [List.mem_singleton] at hx; subst hx; rw [hy]; exact hf
      generalize l[k] = x at *
      have htk2 := htk x rfl
      clear htk
      obtain ⟨e0, e1, e2⟩ := x
      have a0 := HR.out.1.cells (hcell k _ hget 0 _ rfl)
      have a1 := HR.out.1.cells (hcell k _ hget 1 _ rfl)
      have a2 := HR.out.1.cells (hcell k _ hget 2 _ rfl)
      simp only [Nat.add_zero] at a0
      have HC := Lib.hid (And.intro hcell (And.intro hget htk2))
      clear hcell hget htk2
      by_cases h4 : 40 < l.length
      · have h4' : (40 : Int) < ((l.length : Nat) : Int) := by omega
        have hff : Hid (fb = false) := by unfold Hid; rw [HF.out]; refine lightB_not ?_; rintro ⟨h1 | h1, _⟩; (· rw [h1] at hlt; simp at hlt); omega
        obtain rfl := hff.out
        go_wp2
        go_ret
        exact ⟨rfl, HR.out.1.alloc _⟩
      · have h4' : ¬ (40 : Int) < ((l.length : Nat) : Int) := by omega
        by_cases h5 : 400 < e2.size
        · have h5' : (400 : Int) < (e2.size : Int) := by omega
          have hff : Hid (fb = false) := by unfold Hid; rw [HF.out]; refine lightB_not ?_; rintro ⟨_, h1⟩; have h2 := h1 _ (List.mem_of_getElem? HC.out.2.1); unfold paFew at h2; simp only at h2; omega
          obtain rfl := hff.out
          go_wp2
          go_ret
          exact ⟨rfl, HR.out.1.alloc _⟩
        · have h5' : ¬ (400 : Int) < (e2.size : Int) := by omega
          have HT : Hid (Gr w (wr.alloc (.cells #[.bool e0, .int .u64 (e1 : Nat), .string e2] 30)) ∧ (0 < k + 1 → l.length ≤ 40) ∧ ∀ p ∈ l.take (k + 1), paFew p) := ⟨HR.out.1.alloc _, fun _ => by omega, HC.out.2.2 (by unfold paFew; simp only; omega) HR.out.2.2⟩
          go_wp2
          go_roundw
          case rel => exact ⟨k + 1, by omega, by go_num, HT⟩
          case measure => simp [intOf]; omega
    · obtain rfl : k = l.length := by omega
      have hff : Hid (fb = true) := by
        unfold Hid
        rw [HF.out]
        refine lightB_of ⟨?_, ?_⟩
        · cases l with
          | nil => exact .inl rfl
          | cons x l => exact .inr (HR.out.2.1 (by simp))
        · have h := HR.out.2.2; rw [List.take_length] at h; exact h
      obtain rfl := hff.out
      go_wp2
      go_ret
      exact ⟨rfl, HR.out.1⟩
theorem or_info_pa : (Tryd.prog.info? 30).map (fun i => (i.zero, i.size, i.bytes)) = some (some (.agg #[.bool false, .int .u64 0, .string { data := #[] }]), 3, 32) := by kernel_rfl
theorem law_plain (A : Option Addr) (cap : Nat) (l : List Pa) (hcap : l.length ≤ cap) (hcm : cap ≤ maxLen) (hl : l.length ≤ 4000) (w : World) (hs : SliceAt w A 3 paCell l) :
    Calls Tryd.prog 16 #[.slice A l.length cap] w fun r w' => ∃ A' cap', r = .returned (.slice A' (l.map paP).length cap') ∧ Own w' w.heap.size 30 3 paCell A' cap' (l.map paP) ∧ Gr w w' := by
  unfold maxLen at hcm
  obtain ⟨ii, hii, hz0, hz1, hz2⟩ := info_parts or_info_pa
  have HX := Lib.hid hs
  clear hs
  go_enter Tryd.func16, Tryd.ntmps16
  go_wp2
  go_loopw [3, 8] (fun v i wr => ∃ (k : Nat) (A' : Option Addr) (cap' : Nat), k ≤ l.length ∧ i = .int .i64 (k : Nat) ∧ v = .slice A' k cap' ∧ Hid (Gr w wr ∧ Own wr w.heap.size 30 3 paCell A' cap' ((l.take k).map paP))) (fun _ i _ => l.length - (intOf i).toNat)
  case atStart => exact ⟨0, none, 0, by omega, rfl, rfl, Gr.refl _, Own.nil _ _ _ _ _⟩
  case round =>
    obtain ⟨k, A', cap', hk, rfl, rfl, HR⟩ := hrel
    by_cases hlt : k < l.length
    · rcases HX.out with h0 | ⟨a, off, rfl, hcell⟩
      · subst h0; simp at hlt
      have hget := List.getElem?_eq_getElem hlt
      have HTK : Hid ((l.take (k + 1)).map paP = (l.take k).map paP ++ [paP l[k]]) := by unfold Hid; rw [List.take_succ_eq_append_getElem hlt, List.map_append]; rfl
      have hlk : ((l.take k).map paP).length = k := by rw [List.length_map, List.length_take]; omega
      generalize l[k] = x at *
      obtain ⟨e0, e1, e2⟩ := x
      have a0 := HR.out.1.cells (hcell k _ hget 0 _ rfl)
      have a1 := HR.out.1.cells (hcell k _ hget 1 _ rfl)
      have a2 := HR.out.1.cells (hcell k _ hget 2 _ rfl)
      simp only [Nat.add_zero] at a0
      have HC := Lib.hid (And.intro hcell hget)
      clear hcell hget
      obtain ⟨ys, hys⟩ : ∃ ys, ys = (l.take k).map paP := ⟨_, rfl⟩
      rw [← hys] at HR HTK hlk
      clear hys
      subst hlk
      cases e0
      · have HENC : Hid (paCell (paP (false, e1, e2)) = [.bool false, .int .u64 (e1 : Nat), .string { data := #[] }]) := rfl
        have HO := Lib.hid ((HR.out.2.gr ((Gr.refl wr).alloc (.cells #[.bool false, .int .u64 (e1 : Nat), .string { data := #[] }] 30))).gr ((Gr.refl _).alloc (.cells #[.bool false, .int .u64 (e1 : Nat), .string { data := #[] }] 30)))
        have HG : Hid (Gr w ((wr.alloc (.cells #[.bool false, .int .u64 (e1 : Nat), .string { data := #[] }] 30)).alloc (.cells #[.bool false, .int .u64 (e1 : Nat), .string { data := #[] }] 30))) := (HR.out.1.alloc _).alloc _
        have HN := Lib.hid (heap_alloc_last (wr.alloc (.cells #[.bool false, .int .u64 (e1 : Nat), .string { data := #[] }] 30)) (.cells #[.bool false, .int .u64 (e1 : Nat), .string { data := #[] }] 30))
        have HZ : Hid (w.heap.size ≤ ((wr.alloc (.cells #[.bool false, .int .u64 (e1 : Nat), .string { data := #[] }] 30)).alloc (.cells #[.bool false, .int .u64 (e1 : Nat), .string { data := #[] }] 30)).heap.size) := HG.out.size
        rw [alloc_size] at HN
        go_wp2_with (at_builtin; refine wpList_append_lies _ rfl _ _ 22 rfl w.heap.size 30 ii _ 3 32 Tryd.underlying22 hii hz0 hz1 hz2 rfl (by omega) (.slice A' ys.length cap') ys.length (ys.flatMap paCell) rfl HO.out ⟨wr.heap.size + 1, 0, none⟩ 1 1 [.bool false, .int .u64 (e1 : Nat), .string { data := #[] }] rfl rfl (World.news_of_block (cs := #[.bool false, .int .u64 (e1 : Nat), .string { data := #[] }]) HN.out) (fun u hu => by simp at hu; rcases hu with rfl | rfl | rfl <;> rfl) (by omega) (by unfold maxLen; omega) (by omega) HZ.out _ rfl ?_; intro gg cc v5 hown hgrow hat hlt5)
        have HT : Hid (Gr w v5 ∧ Own v5 w.heap.size 30 3 paCell (some ⟨gg, 0, none⟩) cc ((l.take (ys.length + 1)).map paP)) := by
          refine ⟨HO.out.grown hgrow HG.out (Nat.le_refl _), ?_⟩
          rw [HTK.out]
          exact Own.push _ (by rw [HENC.out]; exact hown)
        clear hown hgrow hat HO HZ HN HG
        go_roundw
        case rel => exact ⟨ys.length + 1, _, _, by omega, by go_num, by go_num, HT⟩
        case measure => simp [intOf]; omega
      · have HENC : Hid (paCell (paP (true, e1, e2)) = [.bool true, .int .u64 0, .string e2]) := rfl
        have HO := Lib.hid ((HR.out.2.gr ((Gr.refl wr).alloc (.cells #[.bool true, .int .u64 0, .string e2] 30))).gr ((Gr.refl _).alloc (.cells #[.bool true, .int .u64 0, .string e2] 30)))
        have HG : Hid (Gr w ((wr.alloc (.cells #[.bool true, .int .u64 0, .string e2] 30)).alloc (.cells #[.bool true, .int .u64 0, .string e2] 30))) := (HR.out.1.alloc _).alloc _
        have HN := Lib.hid (heap_alloc_last (wr.alloc (.cells #[.bool true, .int .u64 0, .string e2] 30)) (.cells #[.bool true, .int .u64 0, .string e2] 30))
        have HZ : Hid (w.heap.size ≤ ((wr.alloc (.cells #[.bool true, .int .u64 0, .string e2] 30)).alloc (.cells #[.bool true, .int .u64 0, .string e2] 30)).heap.size) := HG.out.size
        rw [alloc_size] at HN
        go_wp2_with (at_builtin; refine wpList_append_lies _ rfl _ _ 22 rfl w.heap.size 30 ii _ 3 32 Tryd.underlying22 hii hz0 hz1 hz2 rfl (by omega) (.slice A' ys.length cap') ys.length (ys.flatMap paCell) rfl HO.out ⟨wr.heap.size + 1, 0, none⟩ 1 1 [.bool true, .int .u64 0, .string e2] rfl rfl (World.news_of_block (cs := #[.bool true, .int .u64 0, .string e2]) HN.out) (fun u hu => by simp at hu; rcases hu with rfl | rfl | rfl <;> rfl) (by omega) (by unfold maxLen; omega) (by omega) HZ.out _ rfl ?_; intro gg cc v5 hown hgrow hat hlt5)
        have HT : Hid (Gr w v5 ∧ Own v5 w.heap.size 30 3 paCell (some ⟨gg, 0, none⟩) cc ((l.take (ys.length + 1)).map paP)) := by
          refine ⟨HO.out.grown hgrow HG.out (Nat.le_refl _), ?_⟩
          rw [HTK.out]
          exact Own.push _ (by rw [HENC.out]; exact hown)
        clear hown hgrow hat HO HZ HN HG
        go_roundw
        case rel => exact ⟨ys.length + 1, _, _, by omega, by go_num, by go_num, HT⟩
        case measure => simp [intOf]; omega
    · obtain rfl : k = l.length := by omega
      rw [List.take_length] at HR
      go_wp2
      go_ret
      exact ⟨_, _, by rw [List.length_map]; rfl, HR.out.2, HR.out.1⟩
theorem law_same (A1 A2 : Option Addr) (cap1 cap2 : Nat) (a b : List Pa) (h1 : a.length ≤ cap1) (h2 : b.length ≤ cap2) (hm1 : cap1 ≤ maxLen) (hm2 : cap2 ≤ maxLen) (v : Bool) (hv : v = true ↔ a = b) (w : World) (hs1 : SliceAt w A1 3 paCell a) (hs2 : SliceAt w A2 3 paCell b) :
    Calls Tryd.prog 18 #[.slice A1 a.length cap1, .slice A2 b.length cap2] w fun r w' => r = .returned (.bool v) ∧ Gr w w' := by
  unfold maxLen at hm1 hm2
  have HX := Lib.hid (And.intro hs1 (And.intro hs2 hv))
  clear hs1 hs2 hv
  by_cases hl : a.length = b.length
  case neg =>
    have hl2 : ¬ ((a.length : Nat) : Int) = ((b.length : Nat) : Int) := by omega
    have hvf : Hid (v = false) := by
      unfold Hid
      cases v with
      | false => rfl
      | true => exact absurd (congrArg List.length (HX.out.2.2.1 rfl)) hl
    obtain rfl := hvf.out
    go_enter Tryd.func18, Tryd.ntmps18
    go_wp2
    go_ret
    exact ⟨rfl, Gr.refl _⟩
  have hl2 : ((a.length : Nat) : Int) = ((b.length : Nat) : Int) := by omega
  have HLL := Lib.hid hl
  rw [← hl] at h2 ⊢
  clear hl hl2
  go_enter Tryd.func18, Tryd.ntmps18
  go_wp2
  go_loopw [13] (fun i wr => ∃ k : Nat, k ≤ a.length ∧ i = .int .i64 (k : Nat) ∧ Hid (Gr w wr ∧ a.take k = b.take k)) (fun i _ => a.length - (intOf i).toNat)
  case atStart => exact ⟨0, by omega, rfl, Gr.refl _, rfl⟩
  case round =>
    obtain ⟨k, hk, rfl, HR⟩ := hrel
    by_cases hlt : k < a.length
    · rcases HX.out.1 with h0 | ⟨x, off, rfl, hcell⟩
      · subst h0; simp at hlt
      have hltb : k < b.length := by have := HLL.out; omega
      rcases HX.out.2.1 with h0 | ⟨y, off2, rfl, hcell2⟩
      · subst h0; simp at hltb
      have hget := List.getElem?_eq_getElem hlt
      have hget2 := List.getElem?_eq_getElem hltb
      have htk : ∀ p q, a[k] = p → b[k] = q → p = q → a.take (k + 1) = b.take (k + 1) := fun p q hp hq hpq => by
        rw [List.take_succ_eq_append_getElem hlt, List.take_succ_eq_append_getElem hltb, HR.out.2, hp, hq, hpq]
      have hne : ∀ p q, a[k] = p → b[k] = q → p ≠ q → a ≠ b := fun p q hp hq hpq he => by
        subst he; exact hpq (hp.symm.trans hq)
      generalize a[k] = p at *
      generalize b[k] = q at *
      have HTK := Lib.hid (htk p q rfl rfl)
      have HNE := Lib.hid (hne p q rfl rfl)
      clear htk hne hltb
      obtain ⟨p0, p1, p2⟩ := p
      obtain ⟨q0, q1, q2⟩ := q
      have a0 := HR.out.1.cells (hcell k _ hget 0 _ rfl)
      have a1 := HR.out.1.cells (hcell k _ hget 1 _ rfl)
      have a2 := HR.out.1.cells (hcell k _ hget 2 _ rfl)
      have b0 := HR.out.1.cells (hcell2 k _ hget2 0 _ rfl)
      have b1 := HR.out.1.cells (hcell2 k _ hget2 1 _ rfl)
      have b2 := HR.out.1.cells (hcell2 k _ hget2 2 _ rfl)
      simp only [Nat.add_zero] at a0 b0
      clear hcell hcell2 hget hget2
      have HW : Hid (Gr w wr.drew) := HR.out.1.drew
      by_cases h0 : p0 = q0
      case neg =>
        have hvf : Hid (v = false) := by
          unfold Hid
          cases v with
          | false => rfl
          | true => exact absurd (HX.out.2.2.1 rfl) (HNE.out (fun e => h0 (by cases e; rfl)))
        obtain rfl := hvf.out
        go_wp2
        go_region
        go_wp2
        go_ret
        exact ⟨rfl, HW.out⟩
      by_cases h1 : p1 = q1
      case neg =>
        have h1' : ¬ (p1 : Int) = (q1 : Int) := by omega
        have hvf : Hid (v = false) := by
          unfold Hid
          cases v with
          | false => rfl
          | true => exact absurd (HX.out.2.2.1 rfl) (HNE.out (fun e => h1 (by cases e; rfl)))
        obtain rfl := hvf.out
        go_wp2
        go_region
        go_wp2
        go_ret
        exact ⟨rfl, HW.out⟩
      by_cases h2 : p2 = q2
      case neg =>
        have h2' : ¬ p2.toList = q2.toList := fun e => h2 (bytes_ext (by rw [ByteArray.toList_eq, ByteArray.toList_eq] at e; exact e))
        subst h0 h1
        have hvf : Hid (v = false) := by
          unfold Hid
          cases v with
          | false => rfl
          | true => exact absurd (HX.out.2.2.1 rfl) (HNE.out (fun e => h2 (by cases e; rfl)))
        obtain rfl := hvf.out
        go_wp2
        go_region
        go_wp2
        go_ret
        exact ⟨rfl, HW.out⟩
      subst h0 h1 h2
      have HT : Hid (Gr w wr.drew ∧ a.take (k + 1) = b.take (k + 1)) := ⟨HW.out, HTK.out rfl⟩
      go_wp2
      go_region
      go_wp2
      go_roundw
      case rel => exact ⟨k + 1, by omega, by go_num, HT⟩
      case measure => simp [intOf]; omega
    · obtain rfl : k = a.length := by omega
      have hvt : Hid (v = true) := by
        refine HX.out.2.2.2 ?_
        have h := HR.out.2
        rw [List.take_length] at h
        rw [h, HLL.out, List.take_length]
      obtain rfl := hvt.out
      go_wp2
      go_ret
      exact ⟨rfl, HR.out.1⟩
end Go.Proofs.YtckklikfikeokaaDoor
