/- Layer 10: what is put is there, what is cut isn't; what is framed is read as it was. No program in sight. -/
import Derived.Test.YtmpmfgkabjedpaaMgDo13
import Derived.Test.YtmpmfgkabjedpaaMgDo14
import Derived.Test.YtmpmfgkabjedpaaMgDo16
import Derived.Test.YtmpmfgkabjedpaaMgDo17
import Derived.Test.YtmpmfgkabjedpaaMgDo29
import Derived.Test.YtmpmfgkabjedpaaMgDo32
import Derived.Deep.LoopGhost
import Derived.Deep.RegionLaw
import Derived.Shelf.RegionOpenPlain
namespace Go.Proofs.Ytmpmfgkabjedpaa
open Go.RowKit
set_option linter.unusedVariables false
set_option linter.unusedSimpArgs false
section
variable {α : Type} {key : α → ByteArray}
theorem rises_pw {xs : List α} : Rises key xs ↔ xs.Pairwise (fun a b => SL (key a) (key b) = true) := by
  constructor
  · intro h
    rw [List.pairwise_iff_getElem]
    intro i j hi hj hij
    exact h.lt' hij (List.getElem?_eq_getElem hi) (List.getElem?_eq_getElem hj)
  · intro h i a b h1 h2
    rw [List.pairwise_iff_getElem] at h
    obtain ⟨h3, rfl⟩ := List.getElem?_eq_some_iff.1 h1
    obtain ⟨h4, rfl⟩ := List.getElem?_eq_some_iff.1 h2
    exact h i (i + 1) h3 h4 (by omega)
theorem SL_asym {a b : ByteArray} (h : SL a b = true) : SL b a = false := by
  cases h2 : SL b a with
  | false => rfl
  | true =>
    have := SL_trans h h2
    rw [SL_irr] at this
    cases this
theorem SL_ne {a b : ByteArray} (h : SL a b = true) : (a.toList == b.toList) = false := by
  rw [beq_eq_false_iff_ne]
  intro he
  unfold SL at h
  rw [he] at h
  have := SL_irr b
  unfold SL at this
  rw [this] at h
  cases h
theorem SL_of_not {a b : ByteArray} (h : Op.bytesLess a.toList b.toList = false) (hne : (a.toList == b.toList) = false) : SL b a = true := by
  have h1 := bl_total a.toList b.toList
  rw [h] at h1
  have h2 : (b.toList == a.toList) = false := by
    rw [beq_eq_false_iff_ne] at hne ⊢
    exact fun he => hne he.symm
  rw [h2, Bool.or_false] at h1
  unfold SL
  exact h1
/-- rising things and a key: those below, those above; with a thing of the key, or none, between -/
theorem rise_split {xs : List α} (k : ByteArray) (h : Rises key xs) : ∃ a r : List α, cut key xs k = a ++ r ∧ (∀ c, key c = k → plc key xs c = a ++ c :: r) ∧ (∀ x ∈ a, SL (key x) k = true) ∧ (∀ x ∈ r, SL k (key x) = true) ∧ xs.length = (a ++ r).length + (if fdIs key xs k = true then 1 else 0) ∧ Rises key a ∧ Rises key r := by
  have hat := fdAt_le key xs k
  have hlt : fdIs key xs k = true → fdAt key xs k < xs.length := by
    intro h
    unfold fdIs at h
    rcases Nat.lt_or_ge (fdAt key xs k) xs.length with h1 | h1
    · exact h1
    · rw [List.getElem?_eq_none h1] at h; cases h
  refine ⟨xs.take (fdAt key xs k), xs.drop (fdAt key xs k + (if fdIs key xs k = true then 1 else 0)), ?_, ?_, ?_, ?_, ?_, ?_, ?_⟩
  · unfold cut
    split
    · rw [List.eraseIdx_eq_take_drop_succ]
    · simp
  · intro c hc
    unfold plc
    rw [hc]
    split
    · rename_i hi
      rw [List.set_eq_take_append_cons_drop, if_pos (hlt hi)]
    · simp
  · intro x hx
    obtain ⟨i, hi, rfl⟩ := List.mem_iff_getElem.1 hx
    rw [List.length_take] at hi
    rw [List.getElem_take]
    have := h.at k i _ (List.getElem?_eq_getElem (show i < xs.length by omega))
    unfold SL
    rw [← this, decide_eq_true_eq]
    omega
  · intro x hx
    obtain ⟨j, hj, rfl⟩ := List.mem_iff_getElem.1 hx
    rw [List.length_drop] at hj
    rw [List.getElem_drop]
    have hi : fdAt key xs k + (if fdIs key xs k = true then 1 else 0) + j < xs.length := by omega
    have h1 := h.at k _ _ (List.getElem?_eq_getElem hi)
    have h2 := h.is k _ _ (List.getElem?_eq_getElem hi)
    refine SL_of_not ?_ ?_
    · rw [← h1, decide_eq_false_iff_not]; omega
    · rw [← h2]
      cases hb : fdIs key xs k with
      | false => simp
      | true => rw [Bool.and_true, decide_eq_false_iff_not, if_pos rfl]; omega
  · rw [List.length_append, List.length_take, List.length_drop]
    split
    · rename_i hi
      have := hlt hi
      omega
    · omega
  · rw [rises_pw] at h ⊢
    exact h.sublist (List.take_sublist _ _)
  · rw [rises_pw] at h ⊢
    exact h.sublist (List.drop_sublist _ _)
theorem rise_mid {a r : List α} {c : α} {k : ByteArray} (hc : key c = k) (ha : ∀ x ∈ a, SL (key x) k = true) (hr : ∀ x ∈ r, SL k (key x) = true) (h1 : Rises key a) (h2 : Rises key r) : Rises key (a ++ c :: r) := by
  rw [rises_pw] at h1 h2 ⊢
  rw [List.pairwise_append, List.pairwise_cons]
  refine ⟨h1, ⟨fun x hx => by rw [hc]; exact hr x hx, h2⟩, fun x hx y hy => ?_⟩
  rcases List.mem_cons.1 hy with rfl | hy
  · rw [hc]; exact ha x hx
  · exact SL_trans (ha x hx) (hr y hy)
theorem rise_app {a r : List α} {k : ByteArray} (ha : ∀ x ∈ a, SL (key x) k = true) (hr : ∀ x ∈ r, SL k (key x) = true) (h1 : Rises key a) (h2 : Rises key r) : Rises key (a ++ r) := by
  rw [rises_pw] at h1 h2 ⊢
  rw [List.pairwise_append]
  exact ⟨h1, h2, fun x hx y hy => SL_trans (ha x hx) (hr y hy)⟩
theorem fdAt_app {a t : List α} {k : ByteArray} (ha : ∀ x ∈ a, SL (key x) k = true) (ht : ∀ x, t[0]? = some x → SL (key x) k = false) : fdAt key (a ++ t) k = a.length := by
  unfold fdAt
  rw [List.findIdx_append, if_neg]
  · cases t with
    | nil => simp
    | cons x t =>
      have := ht x rfl
      unfold SL at this
      rw [List.findIdx_cons, this]
      simp
  · intro hlt
    obtain ⟨x, hx, hp⟩ := List.findIdx_lt_length.1 hlt
    have := ha x hx
    unfold SL at this
    rw [this] at hp
    cases hp
theorem mid_is {a r : List α} {c : α} {k : ByteArray} (hc : key c = k) (ha : ∀ x ∈ a, SL (key x) k = true) : fdAt key (a ++ c :: r) k = a.length ∧ fdIs key (a ++ c :: r) k = true := by
  have h := fdAt_app (key := key) (t := c :: r) ha (fun x hx => by cases hx; rw [hc]; exact SL_irr k)
  refine ⟨h, ?_⟩
  unfold fdIs
  rw [h, List.getElem?_append_right (Nat.le_refl _), Nat.sub_self]
  simp [hc]
theorem app_not {a r : List α} {k : ByteArray} (ha : ∀ x ∈ a, SL (key x) k = true) (hr : ∀ x ∈ r, SL k (key x) = true) : fdIs key (a ++ r) k = false := by
  have h := fdAt_app (key := key) (t := r) ha (fun x hx => SL_asym (hr x (List.mem_of_getElem? hx)))
  unfold fdIs
  rw [h, List.getElem?_append_right (Nat.le_refl _), Nat.sub_self]
  cases r with
  | nil => rfl
  | cons x r =>
    have h2 := SL_ne (hr x (by simp))
    show ((key x).toList == k.toList) = false
    rw [beq_eq_false_iff_ne] at h2 ⊢
    exact fun he => h2 he.symm
/-- what is put is there; cut, it is as if the key had been cut ahead; then it isn't there -/
theorem put_cut {xs : List α} {c : α} (h : Rises key xs) : fdIs key (plc key xs c) (key c) = true ∧ (plc key xs c)[fdAt key (plc key xs c) (key c)]? = some c ∧ cut key (plc key xs c) (key c) = cut key xs (key c) ∧ fdIs key (cut key xs (key c)) (key c) = false ∧ (plc key xs c).length = (cut key xs (key c)).length + 1 ∧ fdIs key xs (key c) = decide ((cut key xs (key c)).length < xs.length) ∧ Rises key (plc key xs c) ∧ Rises key (cut key xs (key c)) := by
  obtain ⟨a, r, h1, h2, h3, h4, h5, h6, h7⟩ := rise_split (key c) h
  rw [h1, h2 c rfl]
  obtain ⟨k1, k2⟩ := mid_is (r := r) rfl h3
  refine ⟨k2, ?_, ?_, app_not h3 h4, by simp; omega, ?_, rise_mid rfl h3 h4 h6 h7, rise_app h3 h4 h6 h7⟩
  · rw [k1, List.getElem?_append_right (Nat.le_refl _), Nat.sub_self]; rfl
  · unfold cut
    rw [if_pos k2, k1, List.eraseIdx_append_of_length_le (Nat.le_refl _), Nat.sub_self]
    rfl
  · rw [h5]
    cases hb : fdIs key xs (key c) with
    | false => simp
    | true => simp
end
theorem cutC_put {xs : List Ce} {c : Ce} (h : Rises (fun x : Ce => x.1) xs) : cutC (plc (fun x : Ce => x.1) xs c) c.1 = c := by
  obtain ⟨h1, h2, _⟩ := put_cut (c := c) h
  unfold cutC
  rw [if_pos h1, h2]
  rfl
theorem ki_fwd (xs : List Ki) (he : kiErr xs = 0) (hu : ∀ x ∈ xs, x.2 < 4294967296) : kiAns (slAt xs.length (xs.map kiB) 0 ++ slCells (xs.map kiB)) xs.length = (xs, 0) := by
  have hL : Lay kiB kiCan (slAt xs.length (xs.map kiB) 0 ++ slCells (xs.map kiB)) xs.length xs := by
    refine ⟨rfl, fun y hy => ?_, rfl⟩
    have h1 := rErr_0 he y hy
    unfold keyBad at h1
    rw [decide_eq_false_iff_not] at h1
    exact ⟨by omega, hu y hy⟩
  unfold kiAns
  unfold kiErr at he
  rw [rdAns_some rdg_ki hL, if_pos he]
theorem slBody_0 {er : Int} {bs : List ByteArray} (h : (slBody er bs).2 = 0) : er = 0 ∧ slLen bs ≤ 4072 ∧ (slBody er bs).1 = B (slAt bs.length bs 0 ++ slCells bs) := by
  unfold slBody at *
  by_cases h1 : er ≠ 0
  · rw [if_pos h1] at h; exact absurd h h1
  · rw [if_neg h1] at h ⊢
    by_cases h2 : 4072 < slLen bs
    · rw [if_pos h2] at h; simp at h
    · rw [if_neg h2]
      exact ⟨by simpa using h1, by omega, rfl⟩
theorem norm_sum (xs : List Ce) : rcSum true (xs.map ceNorm) = rcSum true xs := by
  unfold rcSum
  rw [List.map_map]
  congr 1
  refine List.map_congr_left fun x _ => ?_
  have := lfB_norm x
  unfold lfB at this
  simp only [Function.comp, rcB, if_true]
  rw [this]
theorem norm_ok {x : Ce} (h : ceOk x) : ceOk (ceNorm x) := ⟨h.1, h.2.1, h.2.2.1, by
  have := h.2.2.2
  unfold ceNorm
  simp only
  split <;> omega⟩
/-- the frame, and what it is read as -/
theorem nsFr_back (leaf : Bool) (xs : List Ce) (hx : ∀ x ∈ xs, ceOk x) (hl : xs.length ≤ 400) (id tx : Nat) : ∃ (k n i t : Nat) (s : List UInt8) (e : Int), nsFr leaf (nsC leaf xs) id tx = .tuple #[.agg #[.int .u8 (k : Nat), .int .u16 (n : Nat), .int .u32 (i : Nat), .int .u64 (t : Nat), .string (B s)], .int .i64 e] ∧
    (e = 0 → n < 65536 ∧ s.length ≤ 8000 ∧ i = id ∧ ofE k s n = 0 ∧ ofL k s n = leaf ∧ rcSum leaf (ofZ k s n) = rcSum leaf (nsC leaf xs) ∧ (∀ z ∈ ofZ k s n, ceOk z) ∧ (ofZ k s n).length ≤ 4000) := by
  unfold nsFr
  by_cases hr : nsRight leaf (nsC leaf xs)
  case neg =>
    rw [if_neg hr]
    exact ⟨0, 0, 0, 0, [], 4, rfl, fun h => by cases h⟩
  rw [if_pos hr]
  unfold ndFr
  by_cases hd : (slBody (rcErr leaf (nsC leaf xs)) ((nsC leaf xs).map (rcB leaf))).2 = 0
  case neg =>
    rw [if_neg hd]
    exact ⟨0, 0, 0, 0, [], _, rfl, fun h => absurd h hd⟩
  rw [if_pos hd]
  obtain ⟨h1, h2, h3⟩ := slBody_0 hd
  rw [h3]
  refine ⟨_, _, _, _, _, _, rfl, fun _ => ?_⟩
  have hlen : ((nsC leaf xs).map (rcB leaf)).length = xs.length := by rw [List.length_map, nsC_len]
  have hsl := slb_len ((nsC leaf xs).map (rcB leaf))
  rw [hlen] at hsl ⊢
  rw [nsC_len]
  cases leaf with
  | true =>
    have e1 : nsC true xs = xs := rfl
    rw [e1, rcErr_leaf] at h1
    rw [e1, rcB_leaf] at hsl h2
    rw [e1, rcB_leaf]
    have hA := slb_fwd xs h1 (fun x hx2 => ⟨(hx x hx2).2.2.1, (hx x hx2).2.2.2⟩)
    have k1 : ofE 2 (slAt xs.length (xs.map lfB) 0 ++ slCells (xs.map lfB)) xs.length = 0 := by unfold ofE; rw [if_pos rfl, hA]
    have k2 : ofL 2 (slAt xs.length (xs.map lfB) 0 ++ slCells (xs.map lfB)) xs.length = true := by unfold ofL; rw [if_pos rfl, hA]; rfl
    have k3 : ofZ 2 (slAt xs.length (xs.map lfB) 0 ++ slCells (xs.map lfB)) xs.length = xs.map ceNorm := by unfold ofZ; rw [if_pos rfl, hA]
    refine ⟨by omega, by rw [hsl]; omega, rfl, k1, k2, ?_, ?_, ?_⟩
    · show rcSum true (ofZ 2 _ _) = _
      rw [k3, norm_sum]
    · show ∀ z ∈ ofZ 2 _ _, ceOk z
      rw [k3]
      intro z hz
      obtain ⟨y, hy, rfl⟩ := List.mem_map.1 hz
      exact norm_ok (hx y hy)
    · show (ofZ 2 _ _).length ≤ 4000
      rw [k3, List.length_map]; omega
  | false =>
    have e1 : nsC false xs = (xs.map kiOf).map ceOf := rfl
    have hk : ∀ y ∈ xs.map kiOf, y.2 < 4294967296 := by
      intro y hy
      obtain ⟨x, hx2, rfl⟩ := List.mem_map.1 hy
      exact (hx x hx2).2.2.1
    have hyl : (xs.map kiOf).length = xs.length := List.length_map _
    have hok := nsC_ok (leaf := false) hx
    rw [e1] at hr hok
    rw [e1, rcErr_kids] at h1
    rw [e1, rcB_kids] at hsl h2
    rw [e1, rcB_kids]
    rw [← hyl] at hsl ⊢
    generalize xs.map kiOf = ys at *
    have hA := ki_fwd ys h1 hk
    have k0 : ¬ ((kiAns (slAt ys.length (ys.map kiB) 0 ++ slCells (ys.map kiB)) ys.length).2 = 0 ∧ ¬ nsRight false ((kiAns (slAt ys.length (ys.map kiB) 0 ++ slCells (ys.map kiB)) ys.length).1.map ceOf)) := by
      rw [hA]; exact fun h => h.2 hr
    have k1 : ofE 3 (slAt ys.length (ys.map kiB) 0 ++ slCells (ys.map kiB)) ys.length = 0 := by unfold ofE; rw [if_neg (by decide), if_pos rfl]; unfold ofKe; rw [if_neg k0, hA]
    have k2 : ofL 3 (slAt ys.length (ys.map kiB) 0 ++ slCells (ys.map kiB)) ys.length = false := by unfold ofL; rw [if_neg (by decide)]
    have k3 : ofZ 3 (slAt ys.length (ys.map kiB) 0 ++ slCells (ys.map kiB)) ys.length = ys.map ceOf := by unfold ofZ; rw [if_neg (by decide), if_pos rfl]; unfold ofKz; rw [if_neg k0, hA]
    refine ⟨by omega, by rw [hsl]; omega, rfl, k1, k2, ?_, ?_, ?_⟩
    · show rcSum false (ofZ 3 _ _) = _
      rw [k3]
    · show ∀ z ∈ ofZ 3 _ _, ceOk z
      rw [k3]
      exact hok
    · show (ofZ 3 _ _).length ≤ 4000
      rw [k3, List.length_map]; omega
end Go.Proofs.Ytmpmfgkabjedpaa
namespace Go.Proofs.Ytmpmfgkabjedpaa
open Go.RowKit
set_option linter.unusedVariables false
set_option linter.unusedSimpArgs false
set_option maxRecDepth 100000
set_option maxHeartbeats 2000000
open Classical in
noncomputable def risesB (xs : List Ce) : Bool := decide (Rises (fun x : Ce => x.1) xs)
open Classical in
theorem risesB_true {xs : List Ce} (h : risesB xs = true) : Rises (fun x : Ce => x.1) xs := by
  unfold risesB at h; exact of_decide_eq_true h
open Classical in
theorem risesB_of {xs : List Ce} (h : Rises (fun x : Ce => x.1) xs) : risesB xs = true := by
  unfold risesB; exact decide_eq_true h
open Classical in
theorem risesB_not {xs : List Ce} (h : ¬ Rises (fun x : Ce => x.1) xs) : risesB xs = false := by
  unfold risesB; exact decide_eq_false h
theorem law_rising (A : Option Addr) (cap : Nat) (xs : List Ce) (hcap : xs.length ≤ cap) (hcm : cap ≤ maxLen) (w : World) (hs : SliceAt w A 4 ceCell xs) :
    Calls Try.prog 25 #[.slice A xs.length cap] w fun r w' => r = .returned (.bool (risesB xs)) ∧ Gr w w' := by
  have HX := Lib.hid hs
  clear hs
  unfold maxLen at hcm
  obtain ⟨rb, hrb⟩ : ∃ rb, rb = risesB xs := ⟨_, rfl⟩
  have HRB := Lib.hid hrb
  rw [← hrb]
  clear hrb
  go_enter Try.func25, Try.ntmps25
  go_wp2
  go_loopw [3] (fun i wr => ∃ k : Nat, 1 ≤ k ∧ k ≤ xs.length + 1 ∧ i = .int .i64 (k : Nat) ∧ Hid (Gr w wr ∧ ∀ i a b, i + 1 < k → xs[i]? = some a → xs[i + 1]? = some b → SL a.1 b.1 = true)) (fun i _ => xs.length + 1 - (intOf i).toNat)
  case atStart => exact ⟨1, by omega, by omega, rfl, Gr.refl _, fun i a b h => by omega⟩
  case round =>
    obtain ⟨k, hk1, hk, rfl, HR⟩ := hrel
    by_cases hlt : k < xs.length
    · rcases HX.out with h0 | ⟨a, off, rfl, hcell⟩
      · subst h0; simp at hlt
      obtain ⟨j, rfl⟩ : ∃ j, k = j + 1 := ⟨k - 1, by omega⟩
      have hlj : j < xs.length := by omega
      have hget := List.getElem?_eq_getElem hlt
      have hgej := List.getElem?_eq_getElem hlj
      generalize xs[j + 1] = x at *
      generalize xs[j] = y at *
      obtain ⟨e0, e1, e2, e3⟩ := x
      obtain ⟨f0, f1, f2, f3⟩ := y
      have a0 := HR.out.1.cells (hcell (j + 1) _ hget 0 _ rfl)
      have b0 := HR.out.1.cells (hcell j _ hgej 0 _ rfl)
      simp only [Nat.add_zero] at a0 b0
      have HC := Lib.hid (And.intro hcell (And.intro hget hgej))
      clear hcell hget hgej
      have hj1 : (((j + 1 : Nat) : Int) - 1) = (j : Int) := by omega
      have hj2 : (((j + 1 : Nat) : Int) - 1).toNat = j := by omega
      have hix : (j : Int) < (xs.length : Int) := by omega
      cases hb : Op.bytesLess f0.toList e0.toList with
      | false =>
        have hb2 : Hid (rb = false) := by
          unfold Hid
          rw [HRB.out]
          refine risesB_not (fun hr => ?_)
          have := hr j _ _ HC.out.2.2 HC.out.2.1
          unfold SL at this
          rw [hb] at this
          cases this
        obtain rfl := hb2.out
        go_wp2
        go_quiet (fail)
        go_wp2
        go_ret
        exact ⟨rfl, HR.out.1.drewN _⟩
      | true =>
        go_wp2
        go_quiet (fail)
        have HT : Hid (Gr w (wr.drewN nq) ∧ ∀ i a b, i + 1 < j + 1 + 1 → xs[i]? = some a → xs[i + 1]? = some b → SL a.1 b.1 = true) := by
          refine ⟨HR.out.1.drewN _, fun i a b h h1 h2 => ?_⟩
          by_cases he : i = j
          · subst he
            rw [HC.out.2.2] at h1
            rw [HC.out.2.1] at h2
            cases h1; cases h2; exact hb
          · exact HR.out.2 i a b (by omega) h1 h2
        go_wp2
        go_roundw
        case rel => exact ⟨j + 1 + 1, by omega, by omega, by go_num, HT⟩
        case measure => simp [intOf]; omega
    · have hb2 : Hid (rb = true) := by
        unfold Hid
        rw [HRB.out]
        refine risesB_of fun i a b h1 h2 => HR.out.2 i a b ?_ h1 h2
        have := (List.getElem?_eq_some_iff.1 h2).1; omega
      obtain rfl := hb2.out
      go_wp2
      go_ret
      exact ⟨rfl, HR.out.1⟩
end Go.Proofs.Ytmpmfgkabjedpaa
namespace Go.Proofs.Ytmpmfgkabjedpaa
open Go.RowKit
set_option linter.unusedVariables false
set_option linter.unusedSimpArgs false
set_option maxRecDepth 100000
set_option maxHeartbeats 4000000
theorem row1 (w : World) {ca : Array Value} {t : TypeId} (a : Obj) (ha : a = .cells ca t (0, 0) := by rfl) : RowT (w.alloc a) w.heap.size ca t := by
  subst ha
  exact heap_alloc_last w _
theorem LfAt.sl {w : World} {A : Option Addr} {n cap : Nat} {xs : List Ce} (h : LfAt w (.agg #[.bool true, .slice A n cap, .slice none 0 0]) xs) : SliceAt w A 4 ceCell xs ∧ xs.length ≤ cap ∧ cap ≤ maxLen := by
  obtain ⟨A', cap', he, h1, h2, h3⟩ := h
  simp only [Value.agg.injEq, Array.mk.injEq, List.cons.injEq, Value.slice.injEq, and_true, true_and] at he
  obtain ⟨rfl, rfl, rfl⟩ := he
  exact ⟨h1, h2, h3⟩
theorem NsAt.lf {w : World} {v : Value} {xs : List Ce} (h : NsAt w v true xs) : LfAt w v xs := by
  rcases h with ⟨_, h⟩ | ⟨h, _⟩
  · exact h
  · cases h
theorem few_one (a0 a1 : ByteArray) (a2 a3 : Nat) (b : Nat) (w : World) (h : w.heap[b]? = some (.cells #[.string a0, .string a1, .int .u32 (a2 : Nat), .int .u32 (a3 : Nat)] 59 (0, 0))) :
    Calls Try.prog 8 #[.slice (some ⟨b, 0, none⟩) 1 1] w fun r w' => r = .returned (.bool (fewB [(a0, a1, a2, a3)])) ∧ Gr w w' :=
  law_few (some ⟨b, 0, none⟩) 1 [(a0, a1, a2, a3)] (Nat.le_refl 1) (show 1 ≤ maxLen by unfold maxLen; omega) w ((Own.lit (base := 0) (enc := ceCell) (xs := [(a0, a1, a2, a3)]) (k := 4) h (Nat.zero_le _) rfl rfl (show 1 ≤ maxLen by unfold maxLen; omega)).slice ceCell_len)
end Go.Proofs.Ytmpmfgkabjedpaa
namespace Go.Proofs.Ytmpmfgkabjedpaa
open Go.RowKit
set_option linter.unusedVariables false
set_option linter.unusedSimpArgs false
set_option maxRecDepth 100000
set_option maxHeartbeats 4000000
theorem ki_zval (w : World) : (zeroValue 61).run Try.prog w = .ok (.agg #[.string { data := #[] }, .int .u32 0]) w := by kernel_rfl
theorem ki_zone (n : Nat) : ∀ v ∈ (Builtin.zeroCells (Value.cells (.agg #[.string { data := #[] }, .int .u32 0])) n).toList, v.oneCell' = true := by
  intro v hv
  rw [Builtin.zeroCells, Array.toList_map] at hv
  obtain ⟨i, _, rfl⟩ := List.mem_map.1 hv
  have e : (Value.cells (.agg #[.string { data := #[] }, .int .u32 0])) = (#[.string { data := #[] }, .int .u32 0] : Array Value) := rfl
  rw [e]
  have hs : (#[.string { data := #[] }, .int .u32 0] : Array Value).size = 2 := rfl
  rw [hs]
  have hi : i % 2 < 2 := Nat.mod_lt _ (by decide)
  generalize i % 2 = q at hi
  have : ∀ q, q < 2 → ((#[.string { data := #[] }, .int .u32 0] : Array Value)[q]!).oneCell' = true := by decide
  exact this q hi
theorem ki_delete (g cap : Nat) (xs : List Ki) (i j : Nat) (hi : i < xs.length) (hj : j = i + 1) (base : Nat) (w : World) (h : Own w base 61 2 kiCell (some ⟨g, 0, none⟩) cap xs) :
    Calls Try.prog 65 #[.slice (some ⟨g, 0, none⟩) xs.length cap, .int .i64 (i : Nat), .int .i64 (j : Nat)] w fun r w' => r = .returned (.slice (some ⟨g, 0, none⟩) (xs.eraseIdx i).length cap) ∧ Own w' base 61 2 kiCell (some ⟨g, 0, none⟩) cap (xs.eraseIdx i) ∧ Ch g w w' := by
  obtain ⟨ii, hii, hz0, hz1, hz2⟩ := info_parts sl_info_ki
  obtain ⟨cur, hh, hb, hn, hc, hz, hx⟩ := h.rowOf
  have HOWN := Lib.hid h
  have hsome : ∀ t, t < cap * 2 → (w.cell? ⟨g, t, none⟩).isSome = true := fun t ht => by
    rw [cell_of_row _ _ _ _ _ _ hh, Array.getElem?_eq_getElem (by omega)]; rfl
  have hfz : ∀ t, w.frozen? ⟨g, t, none⟩ = false := fun t => frozen_of_row _ _ t _ _ hh
  obtain ⟨news, hnews⟩ : ∃ news, news = (xs.drop (i + 1)).flatMap kiCell := ⟨_, rfl⟩
  have hlen : news.length = (xs.length - j) * 2 := by rw [hnews, cells_len 2 kiCell_len, List.length_drop, hj]
  have hget : ∀ t u, news[t]? = some u → w.cell? ⟨g, j * 2 + t, none⟩ = some u := by
    intro t u hu
    have ht : t < news.length := by
      rcases Nat.lt_or_ge t news.length with h | h
      · exact h
      · rw [List.getElem?_eq_none h] at hu; cases hu
    have e : news = (cur.toList.take (xs.length * 2)).drop (j * 2) := by rw [hx, drop_flat kiCell_len, hnews, hj]
    rw [e, List.getElem?_drop, List.getElem?_take] at hu
    split at hu
    · rw [cell_of_row _ _ _ _ _ _ hh]; simpa using hu
    · cases hu
  have hHW : Hid (∀ w1, Ch g w w1 → True) := fun _ _ => trivial
  obtain ⟨A, hA, hsrc⟩ : ∃ A : Addr, (if cap = j then some (⟨g, 0, none⟩ : Addr) else some ⟨g, j * 2, none⟩) = some A ∧ Hid (∀ t u, news[t]? = some u → w.drew.cell? (A.add t) = some u) := by
    by_cases h : cap = j
    · refine ⟨⟨g, 0, none⟩, by simp [h], fun t u hu => ?_⟩
      have h0 : news.length = 0 := by rw [hlen]; omega
      rw [List.length_eq_zero_iff.1 h0] at hu
      simp at hu
    · refine ⟨⟨g, j * 2, none⟩, by simp [h], fun t u hu => ?_⟩
      have hadd : (⟨g, j * 2, none⟩ : Addr).add t = ⟨g, j * 2 + t, none⟩ := by unfold Addr.add; split <;> simp_all
      rw [hadd]
      exact hget t u hu
  have s2 : Hid (∀ u ∈ news, u.oneCell' = true) := by rw [hnews]; exact cells_one kiCell_one _
  have s1 : Hid (news.length = (xs.length - j) * 2) := hlen
  have s3 : Hid (∀ t, t < news.length → (w.drew.cell? ⟨g, 0 + i * 2 + t, none⟩).isSome = true ∧ w.drew.frozen? ⟨g, 0 + i * 2 + t, none⟩ = false) := by
    intro t ht
    rw [hlen] at ht
    exact ⟨hsome _ (by omega), hfz _⟩
  obtain ⟨W1, hW1⟩ : ∃ W1, W1 = w.drew.setCells g (0 + i * 2) news := ⟨_, rfl⟩
  have hl2 : i + (xs.length - j) = xs.length - 1 := by omega
  have hcl : ∀ ty c, (Builtin.clear_ #[25] ty #[.slice (some ⟨g, (i + (xs.length - j)) * 2, none⟩) (xs.length - (i + (xs.length - j))) c]).run Try.prog W1 = .ok (.tuple #[]) (W1.setCells g ((i + (xs.length - j)) * 2) (Builtin.zeroCells (Value.cells (.agg #[.string { data := #[] }, .int .u32 0])) (xs.length - (i + (xs.length - j)))).toList) := by
    intro ty c
    obtain ⟨c1, g1, s1, t1⟩ := setCells_row news (0 + i * 2) w.drew cur hh (by rw [hlen, hz]; omega)
    rw [← hW1] at g1
    exact run_clear_k W1 _ _ ty _ 2 Try.underlying25 ki_zval rfl g _ _ c (by omega) (ki_zone _) (fun t ht => by rw [cell_of_row _ _ _ _ _ _ g1, Array.getElem?_eq_getElem (by rw [s1, hz]; omega)]; rfl) (fun t ht => frozen_of_row _ _ _ _ _ g1)
  have HE : Hid (Own (W1.setCells g ((i + (xs.length - j)) * 2) (Builtin.zeroCells (Value.cells (.agg #[.string { data := #[] }, .int .u32 0])) (xs.length - (i + (xs.length - j)))).toList) base 61 2 kiCell (some ⟨g, 0, none⟩) cap (xs.eraseIdx i) ∧ Ch g w (W1.setCells g ((i + (xs.length - j)) * 2) (Builtin.zeroCells (Value.cells (.agg #[.string { data := #[] }, .int .u32 0])) (xs.length - (i + (xs.length - j)))).toList)) := by
    have e1 : xs.length - (i + (xs.length - j)) = 1 := by omega
    rw [e1, hl2, hW1, hnews]
    simp only [Nat.zero_add]
    refine ⟨(h.gr (Gr.refl w).drew).erase kiCell_len i hi _ (by rw [zeroCells_length]; rfl), ?_⟩
    exact Ch.setCells (Ch.setCells (Ch.refl g w).drew _ _) _ _
  have HL : Hid ((xs.eraseIdx i).length = i + (xs.length - j)) := by unfold Hid; rw [List.length_eraseIdx, if_pos hi]; omega
  have hij : ¬ ((i : Nat) : Int) = ((j : Nat) : Int) := by omega
  have hW : Hid (W1 = w.drew.setCells g (0 + i * 2) news) := hW1
  have hic : i ≤ cap := by omega
  have hnc : xs.length ≤ cap := by omega
  have hjc : j ≤ cap := by omega
  have hjn : j ≤ xs.length := by omega
  have hcc : cap ≤ 9223372036854775807 := by unfold maxLen at hc; omega
  have hij2 : i ≤ j := by omega
  have HR : Hid (i + (xs.length - j) ≤ cap) := by unfold Hid; omega
  clear hW1 hget hnews hlen hx hz hh hsome hfz h hb hHW hj hi hn hl2 hc
  rw [HL.out]
  generalize xs.eraseIdx i = ys at *
  generalize hnn : xs.length = n at *
  clear hnn HOWN
  have mixed : Try.prog.follows Departure.mixedOrders = true := by kernel_rfl
  go_enter Try.func65, Try.ntmps65
  go_wp2_with fail
  go_region_law_o (refine step_append_room rfl _ _ 25 rfl 61 ii 2 Try.underlying25 hii hz1 g 0 i cap (by simp [Act.eval, Act.put]) A (n - j) (cap - j) news (by simp [Act.eval, Act.put]) s1.out hsrc.out s2.out (by omega) s3.out ?_; rw [← hW.out])
  go_wp2
  go_ret
  exact ⟨rfl, HE.out.1, HE.out.2⟩
end Go.Proofs.Ytmpmfgkabjedpaa
