/- Layer 6: what its laws call (printed by sllaw_gen.py). -/
import Derived.Test.YtmpmfgkabjedpaaMgDo01
import Derived.Test.YtmpmfgkabjedpaaMgDo09
import Derived.Deep.LoopGhost
import Derived.Shelf.RegionOpenPlain
import Derived.Sort.Walk0
namespace Go.Proofs.Ytmpmfgkabjedpaa
open Go.RowKit
set_option linter.unusedVariables false
set_option linter.unusedSimpArgs false
set_option maxRecDepth 100000
set_option maxHeartbeats 4000000
def kiOf (x : Ce) : Ki := (x.1, x.2.2.1)
def ceOf (x : Ki) : Ce := (x.1, .empty, x.2, 0)
theorem sl_info_ki : (Try.prog.info? 61).map (fun i => (i.zero, i.size, i.bytes)) = some (some (.agg #[.string { data := #[] }, .int .u32 0]), 2, 24) := by kernel_rfl
theorem sl_info_ce : (Try.prog.info? 59).map (fun i => (i.zero, i.size, i.bytes)) = some (some (.agg #[.string { data := #[] }, .string { data := #[] }, .int .u32 0, .int .u32 0]), 4, 40) := by kernel_rfl
theorem law_kids (A : Option Addr) (cap : Nat) (xs : List Ce) (hcap : xs.length ≤ cap) (hcm : cap ≤ maxLen) (hl : xs.length ≤ 4000) (w : World) (hs : SliceAt w A 4 ceCell xs) :
    Calls Try.prog 35 #[.slice A xs.length cap] w fun r w' => ∃ A' cap', r = .returned (.slice A' (xs.map kiOf).length cap') ∧ Own w' w.heap.size 61 2 kiCell A' cap' (xs.map kiOf) ∧ Gr w w' := by
  unfold maxLen at hcm
  obtain ⟨ii, hii, hz0, hz1, hz2⟩ := info_parts sl_info_ki
  have HX := Lib.hid hs
  clear hs
  go_enter Try.func35, Try.ntmps35
  go_wp2
  go_loopw [3, 8] (fun v i wr => ∃ (k : Nat) (A' : Option Addr) (cap' : Nat), k ≤ xs.length ∧ i = .int .i64 (k : Nat) ∧ v = .slice A' k cap' ∧ Hid (Gr w wr ∧ Own wr w.heap.size 61 2 kiCell A' cap' ((xs.take k).map kiOf))) (fun _ i _ => xs.length - (intOf i).toNat)
  case atStart => exact ⟨0, none, 0, by omega, rfl, rfl, Gr.refl _, Own.nil _ _ _ _ _⟩
  case round =>
    obtain ⟨k, A', cap', hk, rfl, rfl, HR⟩ := hrel
    by_cases hlt : k < xs.length
    · rcases HX.out with h0 | ⟨a, off, rfl, hcell⟩
      · subst h0; simp at hlt
      · have hget := List.getElem?_eq_getElem hlt
        have HTK : Hid ((xs.take (k + 1)).map kiOf = (xs.take k).map kiOf ++ [kiOf xs[k]]) := by unfold Hid; rw [List.take_succ_eq_append_getElem hlt, List.map_append]; rfl
        have hlk : ((xs.take k).map kiOf).length = k := by rw [List.length_map, List.length_take]; omega
        generalize xs[k] = x at *
        obtain ⟨e0, e1, e2, e3⟩ := x
        have a0 := HR.out.1.cells (hcell k _ hget 0 _ rfl)
        have a1 := HR.out.1.cells (hcell k _ hget 1 _ rfl)
        have a2 := HR.out.1.cells (hcell k _ hget 2 _ rfl)
        have a3 := HR.out.1.cells (hcell k _ hget 3 _ rfl)
        simp only [Nat.add_zero] at a0
        have HC := Lib.hid (And.intro hcell hget)
        clear hcell hget
        obtain ⟨ys, hys⟩ : ∃ ys, ys = (xs.take k).map kiOf := ⟨_, rfl⟩
        rw [← hys] at HR HTK hlk
        have HYS := Lib.hid hys
        clear hys
        subst hlk
        have HENC : Hid (kiCell (kiOf (e0, e1, e2, e3)) = [.string e0, .int .u32 (e2 : Nat)]) := rfl
        have HO := Lib.hid ((HR.out.2.gr ((Gr.refl wr).alloc (.cells #[.string e0, .string e1, .int .u32 (e2 : Nat), .int .u32 (e3 : Nat)] 59))).gr ((Gr.refl _).alloc (.cells #[.string e0, .int .u32 (e2 : Nat)] 61)))
        have HG : Hid (Gr w ((wr.alloc (.cells #[.string e0, .string e1, .int .u32 (e2 : Nat), .int .u32 (e3 : Nat)] 59)).alloc (.cells #[.string e0, .int .u32 (e2 : Nat)] 61))) := (HR.out.1.alloc _).alloc _
        have HN := Lib.hid (heap_alloc_last (wr.alloc (.cells #[.string e0, .string e1, .int .u32 (e2 : Nat), .int .u32 (e3 : Nat)] 59)) (.cells #[.string e0, .int .u32 (e2 : Nat)] 61))
        have HZ : Hid (w.heap.size ≤ ((wr.alloc (.cells #[.string e0, .string e1, .int .u32 (e2 : Nat), .int .u32 (e3 : Nat)] 59)).alloc (.cells #[.string e0, .int .u32 (e2 : Nat)] 61)).heap.size) := HG.out.size
        rw [alloc_size] at HN
        go_wp2_with (at_builtin; refine wpList_append_lies _ rfl _ _ 25 rfl w.heap.size 61 ii _ 2 24 Try.underlying25 hii hz0 hz1 hz2 rfl (by omega) (.slice A' ys.length cap') ys.length (ys.flatMap kiCell) rfl HO.out ⟨wr.heap.size + 1, 0, none⟩ 1 1 [.string e0, .int .u32 (e2 : Nat)] rfl rfl (World.news_of_block (cs := #[.string e0, .int .u32 (e2 : Nat)]) HN.out) (fun u hu => by simp at hu; rcases hu with rfl | rfl <;> rfl) (by omega) (by unfold maxLen; omega) (by omega) HZ.out _ rfl ?_; intro gg cc v5 hown hgrow hat hlt5)
        have HT : Hid (Gr w v5 ∧ Own v5 w.heap.size 61 2 kiCell (some ⟨gg, 0, none⟩) cc ((xs.take (ys.length + 1)).map kiOf)) := by
          refine ⟨HO.out.grown hgrow HG.out (Nat.le_refl _), ?_⟩
          rw [HTK.out]
          exact Own.push _ (by rw [HENC.out]; exact hown)
        clear hown hgrow hat HO HZ HN HG
        go_roundw
        case rel => exact ⟨ys.length + 1, _, _, by omega, by go_num, by go_num, HT⟩
        case measure => simp [intOf]; omega
    · obtain rfl : k = xs.length := by omega
      rw [List.take_length] at HR
      go_wp2
      go_ret
      exact ⟨_, _, by rw [List.length_map]; rfl, HR.out.2, HR.out.1⟩
theorem law_cells (A : Option Addr) (cap : Nat) (xs : List Ki) (hcap : xs.length ≤ cap) (hcm : cap ≤ maxLen) (hl : xs.length ≤ 4000) (w : World) (hs : SliceAt w A 2 kiCell xs) :
    Calls Try.prog 43 #[.slice A xs.length cap] w fun r w' => ∃ A' cap', r = .returned (.slice A' (xs.map ceOf).length cap') ∧ Own w' w.heap.size 59 4 ceCell A' cap' (xs.map ceOf) ∧ Gr w w' := by
  unfold maxLen at hcm
  obtain ⟨ii, hii, hz0, hz1, hz2⟩ := info_parts sl_info_ce
  have HX := Lib.hid hs
  clear hs
  go_enter Try.func43, Try.ntmps43
  go_wp2
  go_loopw [3, 8] (fun v i wr => ∃ (k : Nat) (A' : Option Addr) (cap' : Nat), k ≤ xs.length ∧ i = .int .i64 (k : Nat) ∧ v = .slice A' k cap' ∧ Hid (Gr w wr ∧ Own wr w.heap.size 59 4 ceCell A' cap' ((xs.take k).map ceOf))) (fun _ i _ => xs.length - (intOf i).toNat)
  case atStart => exact ⟨0, none, 0, by omega, rfl, rfl, Gr.refl _, Own.nil _ _ _ _ _⟩
  case round =>
    obtain ⟨k, A', cap', hk, rfl, rfl, HR⟩ := hrel
    by_cases hlt : k < xs.length
    · rcases HX.out with h0 | ⟨a, off, rfl, hcell⟩
      · subst h0; simp at hlt
      · have hget := List.getElem?_eq_getElem hlt
        have HTK : Hid ((xs.take (k + 1)).map ceOf = (xs.take k).map ceOf ++ [ceOf xs[k]]) := by unfold Hid; rw [List.take_succ_eq_append_getElem hlt, List.map_append]; rfl
        have hlk : ((xs.take k).map ceOf).length = k := by rw [List.length_map, List.length_take]; omega
        generalize xs[k] = x at *
        obtain ⟨e0, e1⟩ := x
        have a0 := HR.out.1.cells (hcell k _ hget 0 _ rfl)
        have a1 := HR.out.1.cells (hcell k _ hget 1 _ rfl)
        simp only [Nat.add_zero] at a0
        have HC := Lib.hid (And.intro hcell hget)
        clear hcell hget
        obtain ⟨ys, hys⟩ : ∃ ys, ys = (xs.take k).map ceOf := ⟨_, rfl⟩
        rw [← hys] at HR HTK hlk
        have HYS := Lib.hid hys
        clear hys
        subst hlk
        have HENC : Hid (ceCell (ceOf (e0, e1)) = [.string e0, .string { data := #[] }, .int .u32 (e1 : Nat), .int .u32 0]) := rfl
        have HO := Lib.hid ((HR.out.2.gr ((Gr.refl wr).alloc (.cells #[.string e0, .int .u32 (e1 : Nat)] 61))).gr ((Gr.refl _).alloc (.cells #[.string e0, .string { data := #[] }, .int .u32 (e1 : Nat), .int .u32 0] 59)))
        have HG : Hid (Gr w ((wr.alloc (.cells #[.string e0, .int .u32 (e1 : Nat)] 61)).alloc (.cells #[.string e0, .string { data := #[] }, .int .u32 (e1 : Nat), .int .u32 0] 59))) := (HR.out.1.alloc _).alloc _
        have HN := Lib.hid (heap_alloc_last (wr.alloc (.cells #[.string e0, .int .u32 (e1 : Nat)] 61)) (.cells #[.string e0, .string { data := #[] }, .int .u32 (e1 : Nat), .int .u32 0] 59))
        have HZ : Hid (w.heap.size ≤ ((wr.alloc (.cells #[.string e0, .int .u32 (e1 : Nat)] 61)).alloc (.cells #[.string e0, .string { data := #[] }, .int .u32 (e1 : Nat), .int .u32 0] 59)).heap.size) := HG.out.size
        rw [alloc_size] at HN
        go_wp2_with (at_builtin; refine wpList_append_lies _ rfl _ _ 22 rfl w.heap.size 59 ii _ 4 40 Try.underlying22 hii hz0 hz1 hz2 rfl (by omega) (.slice A' ys.length cap') ys.length (ys.flatMap ceCell) rfl HO.out ⟨wr.heap.size + 1, 0, none⟩ 1 1 [.string e0, .string { data := #[] }, .int .u32 (e1 : Nat), .int .u32 0] rfl rfl (World.news_of_block (cs := #[.string e0, .string { data := #[] }, .int .u32 (e1 : Nat), .int .u32 0]) HN.out) (fun u hu => by simp at hu; rcases hu with rfl | rfl | rfl | rfl <;> rfl) (by omega) (by unfold maxLen; omega) (by omega) HZ.out _ rfl ?_; intro gg cc v5 hown hgrow hat hlt5)
        have HT : Hid (Gr w v5 ∧ Own v5 w.heap.size 59 4 ceCell (some ⟨gg, 0, none⟩) cc ((xs.take (ys.length + 1)).map ceOf)) := by
          refine ⟨HO.out.grown hgrow HG.out (Nat.le_refl _), ?_⟩
          rw [HTK.out]
          exact Own.push _ (by rw [HENC.out]; exact hown)
        clear hown hgrow hat HO HZ HN HG
        go_roundw
        case rel => exact ⟨ys.length + 1, _, _, by omega, by go_num, by go_num, HT⟩
        case measure => simp [intOf]; omega
    · obtain rfl : k = xs.length := by omega
      rw [List.take_length] at HR
      go_wp2
      go_ret
      exact ⟨_, _, by rw [List.length_map]; rfl, HR.out.2, HR.out.1⟩
end Go.Proofs.Ytmpmfgkabjedpaa
namespace Go.Proofs.Ytmpmfgkabjedpaa
open Go.RowKit
set_option linter.unusedVariables false
set_option linter.unusedSimpArgs false
set_option maxRecDepth 100000
set_option maxHeartbeats 4000000
theorem rErr_congr {α β : Type} (bad : α → Bool) (key : α → ByteArray) (bad' : β → Bool) (key' : β → ByteArray) (f : α → β) (hb : ∀ x, bad' (f x) = bad x) (hk : ∀ x, key' (f x) = key x) (xs : List α) : rErr bad' key' (xs.map f) = rErr bad key xs := by
  unfold rErr
  have h1 : (∃ x ∈ xs.map f, bad' x = true) ↔ (∃ x ∈ xs, bad x = true) := by
    constructor
    · rintro ⟨y, hy, h⟩
      obtain ⟨x, hx, rfl⟩ := List.mem_map.1 hy
      exact ⟨x, hx, by rw [← hb]; exact h⟩
    · rintro ⟨x, hx, h⟩
      exact ⟨f x, List.mem_map_of_mem hx, by rw [hb]; exact h⟩
  have h2 : (∃ i a b, (xs.map f)[i]? = some a ∧ (xs.map f)[i + 1]? = some b ∧ SL (key' a) (key' b) = false) ↔ (∃ i a b, xs[i]? = some a ∧ xs[i + 1]? = some b ∧ SL (key a) (key b) = false) := by
    constructor
    · rintro ⟨i, a, b, ha, hb2, h⟩
      rw [List.getElem?_map] at ha hb2
      obtain ⟨x, hx, rfl⟩ := Option.map_eq_some_iff.1 ha
      obtain ⟨y, hy, rfl⟩ := Option.map_eq_some_iff.1 hb2
      rw [hk, hk] at h
      exact ⟨i, x, y, hx, hy, h⟩
    · rintro ⟨i, x, y, hx, hy, h⟩
      refine ⟨i, f x, f y, by rw [List.getElem?_map, hx]; rfl, by rw [List.getElem?_map, hy]; rfl, ?_⟩
      rw [hk, hk]; exact h
  by_cases c1 : ∃ x ∈ xs, bad x = true
  · rw [if_pos c1, if_pos (h1.2 c1)]
  · rw [if_neg c1, if_neg (fun h => c1 (h1.1 h))]
    by_cases c2 : ∃ i a b, xs[i]? = some a ∧ xs[i + 1]? = some b ∧ SL (key a) (key b) = false
    · rw [if_pos c2, if_pos (h2.2 c2)]
    · rw [if_neg c2, if_neg (fun h => c2 (h2.1 h))]
theorem rcErr_leaf (xs : List Ce) : rcErr true xs = lfErr xs := by
  have h := rErr_congr ceBad (fun x : Ce => x.1) (rcBad true) (fun x : Ce => x.1) id (fun x => by simp [rcBad, ceBad]) (fun _ => rfl) xs
  rw [List.map_id] at h
  exact h
theorem rcB_leaf (xs : List Ce) : xs.map (rcB true) = xs.map lfB := List.map_congr_left fun x _ => by
  obtain ⟨a, b, c, d⟩ := x; rfl
theorem rcSum_leaf (xs : List Ce) : rcSum true xs = lfSum xs := by
  unfold rcSum lfSum
  congr 1
theorem rcErr_kids (ys : List Ki) : rcErr false (ys.map ceOf) = kiErr ys :=
  rErr_congr keyBad (fun x : Ki => x.1) (rcBad false) (fun x : Ce => x.1) ceOf (fun x => by simp [rcBad, keyBad, ceOf]; rfl) (fun _ => rfl) ys
theorem rcB_kids (ys : List Ki) : (ys.map ceOf).map (rcB false) = ys.map kiB := by
  rw [List.map_map]
  exact List.map_congr_left fun x _ => by obtain ⟨a, b⟩ := x; rfl
theorem rcSum_kids (ys : List Ki) : rcSum false (ys.map ceOf) = kiSum ys := by
  unfold rcSum kiSum
  rw [List.map_map]
  rfl
def cAwake : Ce := (⟨#[97]⟩, ⟨#[104, 105]⟩, 0, 0)
theorem awake_body : slBody (lfErr [cAwake]) ([cAwake].map lfB) = (⟨#[0, 2, 1, 97, 0, 0, 2, 104, 105]⟩, 0) := by
  have he : lfErr [cAwake] = 0 := by
    refine rErr_ok (fun x hx => ?_) (fun i a b h1 h2 => ?_)
    · simp only [List.mem_singleton] at hx; subst hx; decide
    · simp at h2
  rw [he]
  decide
theorem awake_size : (lfB cAwake).size = 7 := by decide
end Go.Proofs.Ytmpmfgkabjedpaa
namespace Go.Proofs.Ytmpmfgkabjedpaa
open Go.RowKit Go.Lib
set_option linter.unusedVariables false
set_option linter.unusedSimpArgs false
set_option maxRecDepth 100000
set_option maxHeartbeats 2000000
theorem so_search (g : Nat) (cb : Array Value) (n : Nat) (p : Nat → Bool) (w : World) (eg : ∀ args w, (callFunc g args).run Try.prog w = .ok (.enter g args) w) (hsz : n < 4611686018427387904)
    (hf : ∀ (W : World) (i : Nat), Gr w W → i < n → Calls Try.prog g (#[.int .i64 i] ++ cb) W fun e w' => e = .returned (.bool (p i)) ∧ Gr W w')
    (hmono : ∀ a b, a ≤ b → b < n → p a = true → p b = true) :
    Calls Try.prog 103 #[.int .i64 n, .func (.func g) #[] cb] w fun e w' => ∃ k : Nat, e = .returned (.int .i64 (k : Nat)) ∧ k ≤ n ∧ (∀ t, t < k → p t = false) ∧ (∀ t, k ≤ t → t < n → p t = true) ∧ Gr w w' := by
  have HF := Lib.hid hf
  have M := Lib.hid hmono
  clear hf hmono
  go_enter Try.func103, Try.ntmps103
  go_wp2
  go_loopg [5, 6] n (fun kx s5 s6 wr => ∃ (lo hi : Nat), s5 = .int .i64 lo ∧ s6 = .int .i64 hi ∧ lo ≤ hi ∧ hi ≤ n ∧ hi - lo ≤ kx ∧ Hid (Gr w wr) ∧
    Hid ((∀ t, t < lo → p t = false) ∧ (∀ t, hi ≤ t → t < n → p t = true)))
  case atStart => exact ⟨0, n, rfl, rfl, Nat.zero_le _, Nat.le_refl _, by omega, Gr.refl _, ⟨fun t ht => absurd ht (Nat.not_lt_zero _), fun t h1 h2 => by omega⟩⟩
  case round =>
    obtain ⟨lo, hi, rfl, rfl, hlh, hin, hg, HG, I⟩ := hrel
    by_cases hlt : lo < hi
    · have hc := HF.out wr ((lo + hi) / 2) HG.out (by omega)
      rw [show (((lo + hi) / 2 : Nat) : Int) = ((lo : Int) + (hi : Int)) / 2 by omega] at hc
      cases hp : p ((lo + hi) / 2) <;> rw [hp] at hc
      · have HP := Lib.hid hp
        clear hp
        go_wp2_with (go_at_fn g; refine hc.mono ?_; rintro e w' ⟨rfl, hgg⟩)
        have HG2 : Hid (Gr w w') := HG.out.trans hgg
        clear hgg
        go_roundg (hi - ((lo + hi) / 2 + 1))
        case measure => omega
        case rel =>
          have I2 : Hid ((∀ t, t < (lo + hi) / 2 + 1 → p t = false) ∧ (∀ t, hi ≤ t → t < n → p t = true)) := ⟨fun t ht => (by
            cases h : p t with
            | false => rfl
            | true => have := M.out t ((lo + hi) / 2) (by omega) (by omega) h; rw [HP.out] at this; cases this), I.out.2⟩
          exact ⟨(lo + hi) / 2 + 1, hi, by rw [show ((lo : Int) + (hi : Int)) / 2 + 1 = (((lo + hi) / 2 + 1 : Nat) : Int) by omega], rfl, by omega, hin, Nat.le_refl _, HG2, I2⟩
      · have HP := Lib.hid hp
        clear hp
        go_wp2_with (go_at_fn g; refine hc.mono ?_; rintro e w' ⟨rfl, hgg⟩)
        have HG2 : Hid (Gr w w') := HG.out.trans hgg
        clear hgg
        go_roundg ((lo + hi) / 2 - lo)
        case measure => omega
        case rel =>
          have I2 : Hid ((∀ t, t < lo → p t = false) ∧ (∀ t, (lo + hi) / 2 ≤ t → t < n → p t = true)) := ⟨I.out.1, fun t ht htn => M.out ((lo + hi) / 2) t ht htn HP.out⟩
          exact ⟨lo, (lo + hi) / 2, rfl, by rw [show ((lo : Int) + (hi : Int)) / 2 = (((lo + hi) / 2 : Nat) : Int) by omega], by omega, by omega, Nat.le_refl _, HG2, I2⟩
    · obtain rfl : hi = lo := by omega
      go_wp2
      go_ret
      exact ⟨hi, rfl, hin, I.out.1, I.out.2, HG.out⟩
/-- the first whose key isn't below k -/
def fdAt {α : Type} (key : α → ByteArray) (xs : List α) (k : ByteArray) : Nat := xs.findIdx (fun x => !Op.bytesLess (key x).toList k.toList)
def fdIs {α : Type} (key : α → ByteArray) (xs : List α) (k : ByteArray) : Bool := match xs[fdAt key xs k]? with | some x => (key x).toList == k.toList | none => false
theorem fdAt_le {α : Type} (key : α → ByteArray) (xs : List α) (k : ByteArray) : fdAt key xs k ≤ xs.length := List.findIdx_le_length
theorem fdAt_of {α : Type} (key : α → ByteArray) (xs : List α) (k : ByteArray) (p : Nat → Bool) (n : Nat) (hn : n ≤ xs.length) (hp : ∀ i x, xs[i]? = some x → p i = !Op.bytesLess (key x).toList k.toList) (h1 : ∀ t, t < n → p t = false) (h2 : ∀ t, n ≤ t → t < xs.length → p t = true) : n = fdAt key xs k := by
  unfold fdAt
  symm
  by_cases hlt : n < xs.length
  · rw [List.findIdx_eq hlt]
    refine ⟨?_, fun j hj => ?_⟩
    · rw [← hp n _ (List.getElem?_eq_getElem hlt)]; exact h2 n (Nat.le_refl _) hlt
    · rw [← hp j _ (List.getElem?_eq_getElem (by omega))]; exact h1 j hj
  · obtain rfl : n = xs.length := by omega
    rw [List.findIdx_eq_length]
    intro x hx
    obtain ⟨i, hi, rfl⟩ := List.mem_iff_getElem.1 hx
    rw [← hp i _ (List.getElem?_eq_getElem hi)]; exact h1 i hi
end Go.Proofs.Ytmpmfgkabjedpaa
