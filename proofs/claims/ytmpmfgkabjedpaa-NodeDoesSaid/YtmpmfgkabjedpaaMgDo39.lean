/- Layer 10: what the document does to a branch's cells is what the code does to its kids; to a leaf's likewise. No program in sight. -/
import Derived.Test.YtmpmfgkabjedpaaMgDo13
import Derived.Test.YtmpmfgkabjedpaaMgDo16
import Derived.Test.YtmpmfgkabjedpaaMgDo32
import Derived.Test.YtmpmfgkabjedpaaMgDo37
import Derived.Test.YtmpmfgkabjedpaaMgDo38
namespace Go.Proofs.Ytmpmfgkabjedpaa
open Go.RowKit
set_option linter.unusedVariables false
set_option linter.unusedSimpArgs false
theorem fdAt_map (ys : List Ki) (k : ByteArray) : fdAt (fun x : Ce => x.1) (ys.map ceOf) k = fdAt (fun x : Ki => x.1) ys k := by
  unfold fdAt
  rw [List.findIdx_map]
  rfl
theorem fdIs_map (ys : List Ki) (k : ByteArray) : fdIs (fun x : Ce => x.1) (ys.map ceOf) k = fdIs (fun x : Ki => x.1) ys k := by
  unfold fdIs
  rw [fdAt_map, List.getElem?_map]
  cases ys[fdAt (fun x : Ki => x.1) ys k]? <;> rfl
theorem plc_map (ys : List Ki) (y : Ki) : plc (fun x : Ce => x.1) (ys.map ceOf) (ceOf y) = (plc (fun x : Ki => x.1) ys y).map ceOf := by
  unfold plc
  have e1 : fdIs (fun x : Ce => x.1) (ys.map ceOf) ((fun x : Ce => x.1) (ceOf y)) = fdIs (fun x : Ki => x.1) ys ((fun x : Ki => x.1) y) := fdIs_map ys y.1
  have e2 : fdAt (fun x : Ce => x.1) (ys.map ceOf) ((fun x : Ce => x.1) (ceOf y)) = fdAt (fun x : Ki => x.1) ys ((fun x : Ki => x.1) y) := fdAt_map ys y.1
  rw [e1, e2]
  split
  · rw [List.map_set]
  · rw [List.map_append, List.map_cons, List.map_take, List.map_drop]
theorem rises_kids {xs : List Ce} (h : Rises (fun x : Ce => x.1) xs) : Rises (fun x : Ki => x.1) (xs.map kiOf) := by
  intro i a b h1 h2
  rw [List.getElem?_map] at h1 h2
  cases ha : xs[i]? with
  | none => rw [ha] at h1; cases h1
  | some x =>
    cases hb : xs[i + 1]? with
    | none => rw [hb] at h2; cases h2
    | some y =>
      rw [ha] at h1; rw [hb] at h2
      cases h1; cases h2
      exact h i x y ha hb
theorem rises_cells {ys : List Ki} (h : Rises (fun x : Ki => x.1) ys) : Rises (fun x : Ce => x.1) (ys.map ceOf) := by
  intro i a b h1 h2
  rw [List.getElem?_map] at h1 h2
  cases ha : ys[i]? with
  | none => rw [ha] at h1; cases h1
  | some x =>
    cases hb : ys[i + 1]? with
    | none => rw [hb] at h2; cases h2
    | some y =>
      rw [ha] at h1; rw [hb] at h2
      cases h1; cases h2
      exact h i x y ha hb
theorem wo_kids (ys : List Ki) (i : Nat) (hi : i < ys.length) : woE false (ys.map ceOf) (woL (ys.map ceOf) (i : Nat)) = (removeK ys i).map ceOf := by
  have hw : woL (ys.map ceOf) (i : Nat) = (ys.eraseIdx i).map ceOf := by
    unfold woL
    rw [if_pos (by omega), Int.toNat_natCast, List.eraseIdx_eq_take_drop_succ, List.eraseIdx_eq_take_drop_succ, List.map_append, List.map_take, List.map_drop]
  have hl : (ys.eraseIdx i).length = ys.length - 1 := by rw [List.length_eraseIdx, if_pos hi]
  unfold woE removeK
  rw [hw, List.length_map, List.length_map, hl, ← setC1_map]
  by_cases h0 : 0 < ys.length - 1
  · rw [if_pos ⟨rfl, h0, by omega⟩]
  · rw [if_neg (fun h => h0 h.2.1)]
    have : ys.eraseIdx i = [] := List.eq_nil_of_length_eq_zero (by omega)
    rw [this]
    rfl
theorem wo_out (leaf : Bool) (zs : List Ce) (at_ : Int) (h : ¬ (0 ≤ at_ ∧ at_ < (zs.length : Int))) : woE leaf zs (woL zs at_) = zs := by
  have hw : woL zs at_ = zs := by
    unfold woL
    split
    · exact List.eraseIdx_of_length_le (by omega)
    · rfl
  unfold woE
  rw [hw, if_neg (fun h => by have := h.2.2; omega)]
theorem wo_leaf (zs : List Ce) (k : ByteArray) : woE true zs (woL zs (if fdIs (fun x : Ce => x.1) zs k = true then ((fdAt (fun x : Ce => x.1) zs k : Nat) : Int) else -1)) = cut (fun x : Ce => x.1) zs k := by
  unfold woE
  rw [if_neg (fun h => by cases h.1)]
  unfold woL cut
  split
  · rw [if_pos (by omega), Int.toNat_natCast]
  · rw [if_neg (by omega)]
theorem turn_map (ys : List Ki) (i p : Nat) (y : Ki) (h : ys[i]? = some y) : (turnK ys i p).map ceOf = (ys.map ceOf).set i (y.1, .empty, p, 0) := by
  unfold turnK
  rw [h, List.map_set]
  rfl
end Go.Proofs.Ytmpmfgkabjedpaa
namespace Go.Proofs.Ytmpmfgkabjedpaa
open Go.RowKit
set_option linter.unusedVariables false
set_option linter.unusedSimpArgs false
theorem wpList_copy {ops : Array Oper} {rest : List Oper} {o : Oper} {a : Act} {Q : Exit → Act → World → Prop} (w : World) (hgd : o.guard = none) (s x : Operand) (ho : o.op = .call { callee := .builtin .append, args := #[s, x], argTypes := #[22, 22] })
    (hs : a.eval s = .slice none 0 0) (A : Option Addr) (c : Nat) (l : List Ce) (hx : a.eval x = .slice A l.length c) (hc : l.length ≤ c) (hm : c ≤ maxLen) (hl : l.length ≤ 4000) (hsl : SliceAt w A 4 ceCell l)
    (h : ∀ B k w', (Own w' w.heap.size 59 4 ceCell B k l ∧ Gr w w') → wpList Try.prog ops Q rest (a.put o.dst (.slice B l.length k)) w') : wpList Try.prog ops Q (o :: rest) a w := by
  obtain ⟨ii, hii, hz0, hz1, hz2⟩ := info_parts sl_info_ce
  cases l with
  | nil =>
    refine wpList_append_none w hgd s x _ ho 59 ii Try.underlying22 hii none 0 0 (Nat.le_refl 0) A c hs hx ?_
    exact h none 0 w ⟨Own.nil _ _ _ _ _, Gr.refl _⟩
  | cons y ys =>
    rcases hsl with h0 | ⟨ad, off, rfl, hcell⟩
    · cases h0
    have hpos : 0 < (y :: ys).length := Nat.succ_pos _
    generalize y :: ys = l at *
    refine wpList_append_lies w hgd s x _ ho w.heap.size 59 ii _ 4 40 Try.underlying22 hii hz0 hz1 hz2 rfl (by omega) (.slice none 0 0) 0 (([] : List Ce).flatMap ceCell) hs (Own.nil _ _ _ _ _) ⟨ad, off, none⟩ l.length c (l.flatMap ceCell) hx (cells_len 4 ceCell_len l) (slice_news ceCell_len hcell) (cells_one ceCell_one l) hpos (by unfold maxLen; omega) (by omega) (Nat.le_refl _) _ rfl ?_
    intro g k w' hown hgrow h2 h3
    have hoN : Own w' w.heap.size 59 4 ceCell (some ⟨g, 0, none⟩) k l := by have h9 : Own w' w.heap.size 59 4 ceCell (some ⟨g, 0, none⟩) k ([] ++ l) := Own.app hown; exact h9
    rw [Nat.zero_add]
    exact h _ _ _ ⟨hoN, (Own.nil w w.heap.size 59 4 ceCell).grown hgrow (Gr.refl _) (Nat.le_refl _)⟩
def lpK (xs : List Ce) (key : ByteArray) : Nat → Ce × Int
  | 0 => ((⟨#[]⟩, ⟨#[]⟩, 0, 0), -1)
  | k + 1 => match xs[k]? with
    | some y => if (y.1.toList == key.toList) = true then (y, (k : Int)) else lpK xs key k
    | none => lpK xs key k
theorem lpK_yes {xs : List Ce} {key : ByteArray} {k : Nat} {x : Ce} (h : xs[k]? = some x) (hb : (x.1.toList == key.toList) = true) : lpK xs key (k + 1) = (x, (k : Int)) := by
  simp only [lpK, h]
  rw [if_pos hb]
theorem lpK_no {xs : List Ce} {key : ByteArray} {k : Nat} {x : Ce} (h : xs[k]? = some x) (hb : (x.1.toList == key.toList) = false) : lpK xs key (k + 1) = lpK xs key k := by
  simp only [lpK, h]
  rw [if_neg (by rw [hb]; decide)]
theorem lpK_at {xs : List Ce} (h : Rises (fun x : Ce => x.1) xs) (key : ByteArray) : ∀ k, k ≤ xs.length → lpK xs key k = if fdIs (fun x : Ce => x.1) xs key = true ∧ fdAt (fun x : Ce => x.1) xs key < k then (cutC xs key, ((fdAt (fun x : Ce => x.1) xs key : Nat) : Int)) else ((⟨#[]⟩, ⟨#[]⟩, 0, 0), -1) := by
  intro k
  induction k with
  | zero => intro _; rw [if_neg (fun h => by omega)]; rfl
  | succ k ih =>
    intro hk
    have hlt : k < xs.length := by omega
    have hget := List.getElem?_eq_getElem hlt
    have h2 := h.is key k _ hget
    cases hb : (xs[k].1.toList == key.toList) with
    | true =>
      rw [hb] at h2
      simp only [Bool.and_eq_true, decide_eq_true_eq] at h2
      rw [lpK_yes hget hb, if_pos ⟨h2.2, by omega⟩]
      unfold cutC
      rw [if_pos h2.2, ← h2.1, hget]
      rfl
    | false =>
      rw [hb] at h2
      simp only [Bool.and_eq_false_iff, decide_eq_false_iff_not] at h2
      rw [lpK_no hget hb, ih (by omega)]
      by_cases hc : fdIs (fun x : Ce => x.1) xs key = true ∧ fdAt (fun x : Ce => x.1) xs key < k
      · rw [if_pos hc, if_pos ⟨hc.1, by omega⟩]
      · rw [if_neg hc, if_neg (fun h3 => hc ⟨h3.1, by
          rcases h2 with h2 | h2
          · omega
          · rw [h3.1] at h2; cases h2⟩)]
theorem lpK_end {xs : List Ce} (h : Rises (fun x : Ce => x.1) xs) (key : ByteArray) : lpK xs key xs.length = (cutC xs key, if fdIs (fun x : Ce => x.1) xs key = true then ((fdAt (fun x : Ce => x.1) xs key : Nat) : Int) else -1) := by
  rw [lpK_at h key _ (Nat.le_refl _)]
  cases hi : fdIs (fun x : Ce => x.1) xs key with
  | true =>
    have hlt : fdAt (fun x : Ce => x.1) xs key < xs.length := by
      unfold fdIs at hi
      cases hg : xs[fdAt (fun x : Ce => x.1) xs key]? with
      | none => rw [hg] at hi; cases hi
      | some x => exact (List.getElem?_eq_some_iff.1 hg).1
    rw [if_pos ⟨rfl, hlt⟩, if_pos rfl]
  | false =>
    rw [if_neg (fun h => by cases h.1), if_neg (by decide)]
    unfold cutC
    rw [hi, if_neg (by decide)]
theorem NsAt.ki {w : World} {v : Value} {ys : List Ki} (h : NsAt w v false (ys.map ceOf)) : KiAt w v ys := by
  rcases h with ⟨h, _⟩ | ⟨_, zs, hz, h⟩
  · cases h
  · rw [ceOf_inj _ _ hz]
    exact h
theorem RfAt.sl {w : World} {leaf l2 : Bool} {A : Option Addr} {n c : Nat} {zs : List Ce} (h : RfAt w leaf (.agg #[.bool l2, .slice A n c]) zs) : zs.length = n ∧ SliceAt w A 4 ceCell zs ∧ zs.length ≤ c ∧ c ≤ maxLen := by
  obtain ⟨A', cap', he, h1, h2, h3⟩ := h
  simp only [Value.agg.injEq, Array.mk.injEq, List.cons.injEq, Value.slice.injEq, and_true, true_and] at he
  obtain ⟨_, rfl, rfl, rfl⟩ := he
  exact ⟨rfl, h1, h2, h3⟩
theorem wpList_copyN {ops : Array Oper} {rest : List Oper} {o : Oper} {a : Act} {Q : Exit → Act → World → Prop} (w : World) (hgd : o.guard = none) (s x : Operand) (ho : o.op = .call { callee := .builtin .append, args := #[s, x], argTypes := #[22, 22] })
    (hs : a.eval s = .slice none 0 0) (A : Option Addr) (n c : Nat) (l : List Ce) (hx : a.eval x = .slice A n c) (hsl : l.length = n ∧ SliceAt w A 4 ceCell l ∧ l.length ≤ c ∧ c ≤ maxLen) (hl : l.length ≤ 4000)
    (h : ∀ B k w', (Own w' w.heap.size 59 4 ceCell B k l ∧ Gr w w') → wpList Try.prog ops Q rest (a.put o.dst (.slice B n k)) w') : wpList Try.prog ops Q (o :: rest) a w := by
  obtain ⟨rfl, h1, h2, h3⟩ := hsl
  exact wpList_copy w hgd s x ho hs A c l hx h2 h3 hl h1 h
def turnU (ys : List Ki) (at_ : Int) (p : Nat) : List Ki := if 0 ≤ at_ ∧ at_ < (ys.length : Int) then turnK ys at_.toNat p else ys
def removeU (ys : List Ki) (at_ : Int) : List Ki := if 0 ≤ at_ ∧ at_ < (ys.length : Int) then removeK ys at_.toNat else ys
theorem KiAt.ns {w : World} {A : Option Addr} {n c : Nat} {ys : List Ki} (h : KiAt w (.agg #[.bool false, .slice none 0 0, .slice A n c]) ys) : NsAt w (.agg #[.bool false, .slice none 0 0, .slice A n c]) false (ys.map ceOf) := .inr ⟨rfl, ys, rfl, h⟩
theorem turnK_len (ys : List Ki) (i p : Nat) : (turnK ys i p).length = ys.length := by unfold turnK; rw [List.length_set]
theorem removeK_le (ys : List Ki) (i : Nat) : (removeK ys i).length ≤ ys.length := by
  have h := List.length_eraseIdx_le ys i
  unfold removeK
  generalize ys.eraseIdx i = zs at *
  cases zs with
  | nil => exact Nat.zero_le _
  | cons z zs => exact h
theorem turnU_len (ys : List Ki) (at_ : Int) (p : Nat) : (turnU ys at_ p).length = ys.length := by
  unfold turnU
  split
  · exact turnK_len _ _ _
  · rfl
theorem removeU_le (ys : List Ki) (at_ : Int) : (removeU ys at_).length ≤ ys.length := by
  unfold removeU
  split
  · exact removeK_le _ _
  · exact Nat.le_refl _
theorem ki_turnU (v : Value) (ys : List Ki) (hl : ys.length ≤ 4000) (at_ : Int) (hat : I64 at_) (page : Nat) (w : World) (h : KiAt w v ys) :
    Calls Try.prog 30 #[v, .int .i64 at_, .int .u32 (page : Nat)] w fun r w' => ∃ A n c, r = .returned (.agg #[.bool false, .slice none 0 0, .slice A n c]) ∧ NsAt w' (.agg #[.bool false, .slice none 0 0, .slice A n c]) false ((turnU ys at_ page).map ceOf) ∧ Gr w w' := by
  unfold turnU
  by_cases hb : 0 ≤ at_ ∧ at_ < (ys.length : Int)
  · rw [if_pos hb]
    obtain ⟨i, rfl⟩ : ∃ i : Nat, at_ = (i : Int) := ⟨at_.toNat, by omega⟩
    refine (ki_turn v ys hl i (by omega) page w h).mono ?_
    rintro r w' ⟨A, cap, rfl, h1, h2⟩
    exact ⟨A, _, cap, rfl, h1.ns, h2⟩
  · rw [if_neg hb]
    refine (ki_turn_stay v ys hl at_ hat hb page w h).mono ?_
    rintro r w' ⟨rfl, h2⟩
    obtain ⟨A, cap, rfl, _⟩ := id h
    exact ⟨A, _, cap, rfl, (h.gr h2).ns, h2⟩
theorem ki_removeU (v : Value) (ys : List Ki) (hl : ys.length ≤ 4000) (at_ : Int) (hat : I64 at_) (w : World) (h : KiAt w v ys) :
    Calls Try.prog 32 #[v, .int .i64 at_] w fun r w' => ∃ A n c, r = .returned (.agg #[.bool false, .slice none 0 0, .slice A n c]) ∧ NsAt w' (.agg #[.bool false, .slice none 0 0, .slice A n c]) false ((removeU ys at_).map ceOf) ∧ Gr w w' := by
  unfold removeU
  by_cases hb : 0 ≤ at_ ∧ at_ < (ys.length : Int)
  · rw [if_pos hb]
    obtain ⟨i, rfl⟩ : ∃ i : Nat, at_ = (i : Int) := ⟨at_.toNat, by omega⟩
    refine (ki_remove v ys hl i (by omega) w h).mono ?_
    rintro r w' ⟨A, cap, rfl, h1, h2⟩
    exact ⟨A, _, cap, rfl, h1.ns, h2⟩
  · rw [if_neg hb]
    refine (ki_remove_stay v ys hl at_ hat hb w h).mono ?_
    rintro r w' ⟨rfl, h2⟩
    obtain ⟨A, cap, rfl, _⟩ := id h
    exact ⟨A, _, cap, rfl, (h.gr h2).ns, h2⟩
theorem rf_withoutU (v : Value) (ys : List Ki) (hl : ys.length ≤ 1000) (at_ : Int) (w : World) (h : RfAt w false v (ys.map ceOf)) :
    Calls Try.prog 27 #[v, .int .i64 at_] w fun r w' => ∃ A n c, r = .returned (.agg #[.bool false, .slice A n c]) ∧ RfAt w' false (.agg #[.bool false, .slice A n c]) ((removeU ys at_).map ceOf) ∧ Gr w w' := by
  have h1 := rf_without false v (ys.map ceOf) (by rw [List.length_map]; exact hl) at_ w h
  have h2 : woE false (ys.map ceOf) (woL (ys.map ceOf) at_) = (removeU ys at_).map ceOf := by
    unfold removeU
    by_cases hb : 0 ≤ at_ ∧ at_ < (ys.length : Int)
    · rw [if_pos hb]
      obtain ⟨i, rfl⟩ : ∃ i : Nat, at_ = (i : Int) := ⟨at_.toNat, by omega⟩
      exact wo_kids ys i (by omega)
    · rw [if_neg hb]
      exact wo_out false (ys.map ceOf) at_ (by rw [List.length_map]; exact hb)
  rw [h2] at h1
  exact h1
theorem ki_insertU (v : Value) (ys : List Ki) (hl : ys.length ≤ 3999) (hr : Rises (fun x : Ki => x.1) ys) (a0 : ByteArray) (a1 : Nat) (w : World) (h : KiAt w v ys) :
    Calls Try.prog 31 #[v, .agg #[.string a0, .int .u32 (a1 : Nat)]] w fun r w' => ∃ A n c, r = .returned (.agg #[.bool false, .slice none 0 0, .slice A n c]) ∧ NsAt w' (.agg #[.bool false, .slice none 0 0, .slice A n c]) false ((plc (fun x : Ki => x.1) ys (a0, a1)).map ceOf) ∧ Gr w w' := by
  refine (nd_insertK v ys hl hr a0 a1 w h).mono ?_
  rintro r w' ⟨A, cap, rfl, h1, h2⟩
  exact ⟨A, _, cap, rfl, h1.ns, h2⟩
theorem rf_placedU (v : Value) (ys : List Ki) (hl : ys.length ≤ 1000) (hr : Rises (fun x : Ki => x.1) ys) (a0 : ByteArray) (a1 : Nat) (w : World) (h : RfAt w false v (ys.map ceOf)) :
    Calls Try.prog 29 #[v, .agg #[.string a0, .string { data := #[] }, .int .u32 (a1 : Nat), .int .u32 0]] w fun r w' => ∃ A n c, r = .returned (.agg #[.bool false, .slice A n c]) ∧ RfAt w' false (.agg #[.bool false, .slice A n c]) ((plc (fun x : Ki => x.1) ys (a0, a1)).map ceOf) ∧ Gr w w' := by
  have h1 := rf_placed false v (ys.map ceOf) (by rw [List.length_map]; exact hl) a0 ⟨#[]⟩ a1 0 w h
  have h2 : rpE (a0, ⟨#[]⟩, a1, 0) (ys.map ceOf) = (plc (fun x : Ki => x.1) ys (a0, a1)).map ceOf := by
    rw [rp_plc (rises_cells hr)]
    exact plc_map ys (a0, a1)
  rw [h2] at h1
  exact h1
theorem rf_routeU (v : Value) (ys : List Ki) (hl : ys.length ≤ 4000) (hr : Rises (fun x : Ki => x.1) ys) (key : ByteArray) (w : World) (h : RfAt w false v (ys.map ceOf)) :
    Calls Try.prog 34 #[v, .string key] w fun r w' => r = .returned (.int .i64 ((rtAt ys key : Nat) : Int)) ∧ Gr w w' := by
  have h1 := rf_routeK v (ys.map ceOf) (by rw [List.length_map]; exact hl) key w h
  rw [rt_same hr] at h1
  exact h1
theorem turned_cell {v9 : World} {b q kT i : Nat} {zs : List Ce} (o : Obj) (h : Own v9 b 59 4 ceCell (some ⟨q, 0, none⟩) kT zs) (hi : i < zs.length) : (∃ c, (v9.alloc o).cell? ⟨q, i * 4 + 2, none⟩ = some c) ∧ (v9.alloc o).frozen? ⟨q, i * 4 + 2, none⟩ = false ∧ ¬ q = v9.heap.size ∧ ¬ v9.heap.size = q := by
  obtain ⟨cur, hrow, _, hnc, _, hcs, _⟩ := h.rowOf
  have hlt := lt_of_row hrow
  have hrow2 := (((Gr.refl v9).alloc o).block hlt).trans hrow
  exact ⟨row_cellD hrow2 hcs.symm (i * 4 + 2) (by omega), frozen_of_row _ _ (i * 4 + 2) _ _ hrow2, by omega, by omega⟩
theorem turned_out {W8 v9 : World} {b kT n : Nat} {BT : Option Addr} {zs : List Ce} (h : Own v9 b 59 4 ceCell BT kT zs) (hg : Gr W8 v9) (hn : zs.length = n) :
    RowT (v9.alloc (.cells #[.bool false, .slice BT n kT] 32)) v9.heap.size #[.bool false, .slice BT n kT] 32 ∧
    RfAt (v9.alloc (.cells #[.bool false, .slice BT n kT] 32)) false (.agg #[.bool false, .slice BT n kT]) zs ∧
    Gr W8 (v9.alloc (.cells #[.bool false, .slice BT n kT] 32)) := by
  subst hn
  have h2 : SliceAt (v9.alloc (.cells #[.bool false, .slice BT zs.length kT] 32)) BT 4 ceCell zs := (h.slice ceCell_len).gr ((Gr.refl v9).alloc _)
  exact ⟨heap_alloc_last v9 _, ⟨BT, kT, rfl, h2, h.cap_le.1, h.cap_le.2⟩, hg.alloc _⟩
theorem turned_in {W8 v9 : World} {q kT n a2 i : Nat} {zs : List Ce} {y0 : ByteArray} {y2 : Nat} (h : Own v9 W8.heap.size 59 4 ceCell (some ⟨q, 0, none⟩) kT zs) (hg : Gr W8 v9) (hn : zs.length = n) (hget : zs[i]? = some (y0, .empty, y2, 0)) :
    RowT ((v9.alloc (.cells #[.bool false, .slice (some ⟨q, 0, none⟩) n kT] 32)).setCell ⟨q, i * 4 + 2, none⟩ (.int .u32 (a2 : Nat))) v9.heap.size #[.bool false, .slice (some ⟨q, 0, none⟩) n kT] 32 ∧
    RfAt ((v9.alloc (.cells #[.bool false, .slice (some ⟨q, 0, none⟩) n kT] 32)).setCell ⟨q, i * 4 + 2, none⟩ (.int .u32 (a2 : Nat))) false (.agg #[.bool false, .slice (some ⟨q, 0, none⟩) n kT]) (zs.set i (y0, .empty, a2, 0)) ∧
    Gr W8 ((v9.alloc (.cells #[.bool false, .slice (some ⟨q, 0, none⟩) n kT] 32)).setCell ⟨q, i * 4 + 2, none⟩ (.int .u32 (a2 : Nat))) := by
  subst hn
  have h1 := h.lt (g := q) rfl
  have h2 : Own (v9.alloc (.cells #[.bool false, .slice (some ⟨q, 0, none⟩) zs.length kT] 32)) W8.heap.size 59 4 ceCell (some ⟨q, 0, none⟩) kT zs := h.of_block (fun g he => ((Gr.refl v9).alloc _).block (h.lt he).1)
  have h3 := own_setOne h2 ceCell_len i (y0, .empty, y2, 0) (y0, .empty, a2, 0) hget 2 (by omega) (.int .u32 (a2 : Nat)) rfl
  refine ⟨(heap_setCell_other _ _ _ _ (by show v9.heap.size ≠ q; omega)).trans (heap_alloc_last v9 _), ⟨_, kT, by rw [List.length_set], h3.slice ceCell_len, h3.cap_le.1, h3.cap_le.2⟩, ((Ch.refl q _).setCell _ _).gr (hg.alloc _) h1.2⟩
end Go.Proofs.Ytmpmfgkabjedpaa
namespace Go.Proofs.Ytmpmfgkabjedpaa
open Go.RowKit
set_option linter.unusedVariables false
set_option linter.unusedSimpArgs false
set_option maxRecDepth 100000
set_option maxHeartbeats 2000000
theorem ki_cut (v : Value) (ys : List Ki) (key : ByteArray) (w : World) (h : KiAt w v ys) :
    Calls Try.prog 26 #[v, .string key] w fun r w' => r = .returned (.tuple #[v, .agg #[.string { data := #[] }, .string { data := #[] }, .int .u32 0, .int .u32 0], .bool false]) ∧ Gr w w' := by
  obtain ⟨A, cap, rfl, hs, h1, h2⟩ := h
  have cF := fun w1 => Lib.hid (lf_find none 0 [] (Nat.le_refl _) (show 0 ≤ maxLen by unfold maxLen; omega) key (fun a b x y hab hx => by simp at hx) (by decide) w1 (.inl rfl))
  have e1 : fdAt (fun x : Ce => x.1) [] key = 0 := rfl
  have e2 : fdIs (fun x : Ce => x.1) [] key = false := rfl
  rw [e1, e2] at cF
  simp only [List.length_nil] at cF
  clear hs e1 e2
  obtain ⟨r0, r1, r2⟩ := heap_alloc3 w (.cells #[.bool false, .slice none 0 0, .slice A ys.length cap] 27) (.cells #[.bool false, .slice none 0 0, .slice none 0 0] 27) (.cells #[.string { data := #[] }, .string { data := #[] }, .int .u32 0, .int .u32 0] 59)
  have HU : Hid (Gr w (((w.alloc (.cells #[.bool false, .slice none 0 0, .slice A ys.length cap] 27)).alloc (.cells #[.bool false, .slice none 0 0, .slice none 0 0] 27)).alloc (.cells #[.string { data := #[] }, .string { data := #[] }, .int .u32 0, .int .u32 0] 59)) ∧ (((w.alloc (.cells #[.bool false, .slice none 0 0, .slice A ys.length cap] 27)).alloc (.cells #[.bool false, .slice none 0 0, .slice none 0 0] 27)).alloc (.cells #[.string { data := #[] }, .string { data := #[] }, .int .u32 0, .int .u32 0] 59)).heap[w.heap.size]? = some (.cells #[.bool false, .slice none 0 0, .slice A ys.length cap] 27 (0, 0)) ∧ (((w.alloc (.cells #[.bool false, .slice none 0 0, .slice A ys.length cap] 27)).alloc (.cells #[.bool false, .slice none 0 0, .slice none 0 0] 27)).alloc (.cells #[.string { data := #[] }, .string { data := #[] }, .int .u32 0, .int .u32 0] 59)).heap[w.heap.size + 1]? = some (.cells #[.bool false, .slice none 0 0, .slice none 0 0] 27 (0, 0)) ∧ (((w.alloc (.cells #[.bool false, .slice none 0 0, .slice A ys.length cap] 27)).alloc (.cells #[.bool false, .slice none 0 0, .slice none 0 0] 27)).alloc (.cells #[.string { data := #[] }, .string { data := #[] }, .int .u32 0, .int .u32 0] 59)).heap[w.heap.size + 1 + 1]? = some (.cells #[.string { data := #[] }, .string { data := #[] }, .int .u32 0, .int .u32 0] 59 (0, 0))) := ⟨(((Gr.refl w).alloc _).alloc _).alloc _, r0, r1, r2⟩
  clear r0 r1 r2
  go_enter Try.func26, Try.ntmps26
  go_wp2
  generalize (((w.alloc (.cells #[.bool false, .slice none 0 0, .slice A ys.length cap] 27)).alloc (.cells #[.bool false, .slice none 0 0, .slice none 0 0] 27)).alloc (.cells #[.string { data := #[] }, .string { data := #[] }, .int .u32 0, .int .u32 0] 59)) = U at *
  generalize hgw : w.heap.size = g at *
  have HGW := Lib.hid hgw
  clear hgw
  have HQ : Hid (U.cell? ⟨g, 1, none⟩ = some (.slice none 0 0)) := row_cell HU.out.2.1 1 _ rfl
  go_region_held3 (fun w' => w'.cell? ⟨g, 1, none⟩ = some (.slice none 0 0)) (first | exact HQ.out | assumption)
    (first
      | (go_at_call 37; refine (sl_leaves _).mono ?_; rintro r v1 ⟨rfl, hg⟩; have HG1 := Lib.hid ((Gr.refl U).drew.trans hg); have HQ : Hid (v1.cell? ⟨g, 1, none⟩ = some (.slice none 0 0)) := HG1.out.cells HQ.out; clear hg)
      | (go_at_call 60; refine (cF _).out.mono ?_; clear cF; rintro r v2 ⟨rfl, hg⟩; have HG2 := Lib.hid (HG1.out.trans hg); have HQ : Hid (v2.cell? ⟨g, 1, none⟩ = some (.slice none 0 0)) := hg.cells HQ.out; clear hg))
  have HV : Hid (Gr w v2 ∧ v2.heap[g]? = some (.cells #[.bool false, .slice none 0 0, .slice A ys.length cap] 27 (0, 0)) ∧ v2.heap[g + 1]? = some (.cells #[.bool false, .slice none 0 0, .slice none 0 0] 27 (0, 0)) ∧ v2.heap[g + 1 + 1]? = some (.cells #[.string { data := #[] }, .string { data := #[] }, .int .u32 0, .int .u32 0] 59 (0, 0))) :=
    ⟨HU.out.1.trans HG2.out, (HG2.out.block (lt_of_row HU.out.2.1)).trans HU.out.2.1, (HG2.out.block (lt_of_row HU.out.2.2.1)).trans HU.out.2.2.1, (HG2.out.block (lt_of_row HU.out.2.2.2)).trans HU.out.2.2.2⟩
  clear HU HG1 HG2 HQ
  have n0 := row_cell HV.out.2.1 0 _ rfl
  have n1 := row_cell HV.out.2.1 1 _ rfl
  have n2 := row_cell HV.out.2.1 2 _ rfl
  have y0 := row_cell HV.out.2.2.1 0 _ rfl
  have fy0 := frozen_of_row _ _ 0 _ _ HV.out.2.2.1
  have y1 := row_cell HV.out.2.2.1 1 _ rfl
  have fy1 := frozen_of_row _ _ 1 _ _ HV.out.2.2.1
  have y2 := row_cell HV.out.2.2.1 2 _ rfl
  have fy2 := frozen_of_row _ _ 2 _ _ HV.out.2.2.1
  have z0 := row_cell HV.out.2.2.2 0 _ rfl
  have fz0 := frozen_of_row _ _ 0 _ _ HV.out.2.2.2
  have z1 := row_cell HV.out.2.2.2 1 _ rfl
  have fz1 := frozen_of_row _ _ 1 _ _ HV.out.2.2.2
  have z2 := row_cell HV.out.2.2.2 2 _ rfl
  have fz2 := frozen_of_row _ _ 2 _ _ HV.out.2.2.2
  have z3 := row_cell HV.out.2.2.2 3 _ rfl
  have fz3 := frozen_of_row _ _ 3 _ _ HV.out.2.2.2
  go_wp2
  refine bodyPost_ret (results_c_c_t rfl _ _ (g + 1) (g + 1 + 1) _ _ #[.bool false, .slice none 0 0, .slice A ys.length cap] #[.string { data := #[] }, .string { data := #[] }, .int .u32 0, .int .u32 0] (0, 0) (0, 0) (.struct _) (.struct _) rfl ((set4_other _ (g + 1 + 1) (g + 1) (.string { data := #[] }) (.string { data := #[] }) (.int .u32 0) (.int .u32 0) (by omega)).trans (set3_same (.bool false) (.slice none 0 0) (.slice A ys.length cap) HV.out.2.2.1)) Try.underlying27 rfl (by kernel_rfl) rfl (set4_same (.string { data := #[] }) (.string { data := #[] }) (.int .u32 0) (.int .u32 0) ((set3_other _ (g + 1) (g + 1 + 1) (.bool false) (.slice none 0 0) (.slice A ys.length cap) (by omega)).trans HV.out.2.2.2)) Try.underlying59 rfl (by kernel_rfl)) rfl ⟨rfl, set4_gr (g + 1 + 1) (.string { data := #[] }) (.string { data := #[] }) (.int .u32 0) (.int .u32 0) (set3_gr (g + 1) (.bool false) (.slice none 0 0) (.slice A ys.length cap) HV.out.1 (by rw [HGW.out]; omega)) (by rw [HGW.out]; omega)⟩
end Go.Proofs.Ytmpmfgkabjedpaa
