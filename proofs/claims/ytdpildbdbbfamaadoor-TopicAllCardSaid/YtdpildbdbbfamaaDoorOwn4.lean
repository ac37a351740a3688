/- A row some cells of which are written over at once: what it is then. -/
import Derived.Test.YtdpildbdbbfamaaDoorRunK
import Derived.Test.YtdpildbdbbfamaaDoorOwn3
namespace Go.Proofs.YtdpildbdbbfamaaDoor
open Go.RowKit
set_option linter.unusedVariables false
set_option linter.unusedSimpArgs false
theorem setCells_row {b : Nat} {t : TypeId} : ∀ (vs : List Value) (o : Nat) (w : World) (cur : Array Value), w.heap[b]? = some (.cells cur t (0, 0)) → o + vs.length ≤ cur.size →
    ∃ cur' : Array Value, (w.setCells b o vs).heap[b]? = some (.cells cur' t (0, 0)) ∧ cur'.size = cur.size ∧ cur'.toList = cur.toList.take o ++ vs ++ cur.toList.drop (o + vs.length)
  | [], o, w, cur, h, hl => ⟨cur, h, rfl, by simp⟩
  | v :: vs, o, w, cur, h, hl => by
    simp only [List.length_cons] at hl
    have h1 := heap_setCell_same w b o _ _ v h
    obtain ⟨cur', h2, h3, h4⟩ := setCells_row vs (o + 1) _ _ h1 (by simp; omega)
    refine ⟨cur', h2, by simpa using h3, ?_⟩
    rw [h4]
    have ho : o < cur.toList.length := by simp; omega
    have e1 : (cur.setIfInBounds o v).toList = cur.toList.set o v := by simp
    rw [e1, List.length_cons, List.drop_set_of_lt (by omega), show o + 1 + vs.length = o + (vs.length + 1) by omega]
    congr 1
    rw [List.take_set, List.take_succ_eq_append_getElem ho, List.set_append_right _ _ (by rw [List.length_take]; omega), List.length_take, Nat.min_eq_left (by omega), Nat.sub_self]
    simp
theorem setCells_other {b k : Nat} (h : k ≠ b) : ∀ (vs : List Value) (o : Nat) (w : World), (w.setCells b o vs).heap[k]? = w.heap[k]?
  | [], o, w => rfl
  | v :: vs, o, w => by
    rw [World.setCells, setCells_other h vs (o + 1)]
    exact heap_setCell_other _ _ _ _ h
theorem Ch.setCells {b : Nat} {w w' : World} (h : Ch b w w') : ∀ (vs : List Value) (o : Nat), Ch b w (w'.setCells b o vs)
  | [], o => h
  | v :: vs, o => by
    rw [World.setCells]
    exact Ch.setCells (h.setCell o v) vs (o + 1)
section
variable {α : Type} {w : World} {base e k g cap : Nat} {enc : α → List Value} {xs : List α}
/-- the row under a slice of the call's own that has a block -/
theorem Own.rowOf (h : Own w base e k enc (some ⟨g, 0, none⟩) cap xs) : ∃ cur : Array Value, w.heap[g]? = some (.cells cur e (0, 0)) ∧ base ≤ g ∧ xs.length ≤ cap ∧ cap ≤ maxLen ∧ cur.size = cap * k ∧ cur.toList.take (xs.length * k) = xs.flatMap enc := by
  obtain ⟨h1, h2⟩ := h
  rcases h2 with ⟨hv, h0⟩ | ⟨q', c, cur, hv, hb, hh, hn, hc, hz, hx⟩
  · simp at hv
  · simp only [Value.slice.injEq] at hv
    obtain ⟨hq, _, rfl⟩ := hv
    cases hq
    exact ⟨cur, hh, hb, hn, hc, hz, hx⟩
theorem Own.ofRow {cur : Array Value} (hk : ∀ x, (enc x).length = k) (hh : w.heap[g]? = some (.cells cur e (0, 0))) (hb : base ≤ g) (hn : xs.length ≤ cap) (hc : cap ≤ maxLen) (hz : cur.size = cap * k) (hx : cur.toList.take (xs.length * k) = xs.flatMap enc) : Own w base e k enc (some ⟨g, 0, none⟩) cap xs :=
  ⟨cells_len k hk xs, .inr ⟨g, cap, cur, rfl, hb, hh, hn, hc, hz, hx⟩⟩
theorem take_flat (hk : ∀ x, (enc x).length = k) (xs : List α) (i : Nat) : (xs.flatMap enc).take (i * k) = (xs.take i).flatMap enc := by
  conv => lhs; rw [← List.take_append_drop i xs, List.flatMap_append]
  by_cases hi : i ≤ xs.length
  · have hl : ((xs.take i).flatMap enc).length = i * k := by rw [cells_len k hk, List.length_take, Nat.min_eq_left hi]
    rw [← hl, List.take_left]
  · have h1 : xs.drop i = [] := List.drop_of_length_le (by omega)
    have h2 : xs.take i = xs := List.take_of_length_le (by omega)
    rw [h1, h2, List.flatMap_nil, List.append_nil, List.take_of_length_le (by rw [cells_len k hk]; exact Nat.mul_le_mul_right k (by omega))]
theorem drop_flat (hk : ∀ x, (enc x).length = k) (xs : List α) (i : Nat) : (xs.flatMap enc).drop (i * k) = (xs.drop i).flatMap enc := by
  conv => lhs; rw [← List.take_append_drop i xs, List.flatMap_append]
  by_cases hi : i ≤ xs.length
  · have hl : ((xs.take i).flatMap enc).length = i * k := by rw [cells_len k hk, List.length_take, Nat.min_eq_left hi]
    rw [← hl, List.drop_left]
  · have h1 : xs.drop i = [] := List.drop_of_length_le (by omega)
    have h2 : xs.take i = xs := List.take_of_length_le (by omega)
    rw [h1, h2, List.flatMap_nil, List.append_nil, List.drop_of_length_le (by rw [cells_len k hk]; exact Nat.mul_le_mul_right k (by omega))]
/-- the first cells of a row that holds xs -/
theorem take_row (hk : ∀ x, (enc x).length = k) {l : List Value} (h : l.take (xs.length * k) = xs.flatMap enc) (i : Nat) (hi : i ≤ xs.length) : l.take (i * k) = (xs.take i).flatMap enc := by
  rw [← take_flat hk, ← h, List.take_take, Nat.min_eq_left (Nat.mul_le_mul_right k hi)]
/-- two rows of cells written over, the second behind the first: a thing is taken out -/
theorem Own.erase (h : Own w base e k enc (some ⟨g, 0, none⟩) cap xs) (hk : ∀ x, (enc x).length = k) (i : Nat) (hi : i < xs.length) (Z : List Value) (hZ : Z.length = k) :
    Own ((w.setCells g (i * k) ((xs.drop (i + 1)).flatMap enc)).setCells g ((xs.length - 1) * k) Z) base e k enc (some ⟨g, 0, none⟩) cap (xs.eraseIdx i) := by
  obtain ⟨cur, hh, hb, hn, hc, hz, hx⟩ := h.rowOf
  have hD : ((xs.drop (i + 1)).flatMap enc).length = (xs.length - 1 - i) * k := by rw [cells_len k hk, List.length_drop]; congr 1; omega
  have m1 : i * k + (xs.length - 1 - i) * k = (xs.length - 1) * k := by rw [← Nat.add_mul]; congr 1; omega
  have m2 : (xs.length - 1) * k + k ≤ cap * k := by rw [← Nat.succ_mul]; exact Nat.mul_le_mul_right k (by omega)
  obtain ⟨c1, g1, s1, t1⟩ := setCells_row ((xs.drop (i + 1)).flatMap enc) (i * k) w cur hh (by rw [hD, hz]; omega)
  obtain ⟨c2, g2, s2, t2⟩ := setCells_row Z ((xs.length - 1) * k) _ c1 g1 (by rw [hZ, s1, hz]; exact m2)
  have hl : (xs.eraseIdx i).length = xs.length - 1 := by rw [List.length_eraseIdx, if_pos hi]
  refine Own.ofRow hk g2 hb (by omega) hc (by rw [s2, s1, hz]) ?_
  have hT : (cur.toList.take (i * k)).length = i * k := by rw [List.length_take, Array.length_toList, hz, Nat.min_eq_left]; exact Nat.mul_le_mul_right k (by omega)
  have hA : (cur.toList.take (i * k) ++ (xs.drop (i + 1)).flatMap enc).length = (xs.length - 1) * k := by rw [List.length_append, hT, hD, m1]
  have e1 : c1.toList.take ((xs.length - 1) * k) = cur.toList.take (i * k) ++ (xs.drop (i + 1)).flatMap enc := by rw [t1, ← hA, List.take_left]
  have e2 : (c1.toList.take ((xs.length - 1) * k)).length = (xs.length - 1) * k := by rw [e1, hA]
  rw [hl, t2, List.append_assoc]
  conv => lhs; arg 1; rw [← e2]
  rw [List.take_left, e1, take_row hk hx i (by omega), ← List.flatMap_append, List.eraseIdx_eq_take_drop_succ]
/-- cells put in: behind them what stood from there on -/
theorem Own.insertShift (h : Own w base e k enc (some ⟨g, 0, none⟩) cap xs) (hk : ∀ x, (enc x).length = k) (i : Nat) (hi : i ≤ xs.length) (hroom : xs.length + 1 ≤ cap) (x : α) :
    Own ((w.setCells g ((i + 1) * k) ((xs.drop i).flatMap enc)).setCells g (i * k) (enc x)) base e k enc (some ⟨g, 0, none⟩) cap (xs.take i ++ x :: xs.drop i) := by
  obtain ⟨cur, hh, hb, hn, hc, hz, hx⟩ := h.rowOf
  have hD : ((xs.drop i).flatMap enc).length = (xs.length - i) * k := by rw [cells_len k hk, List.length_drop]
  have m1 : (i + 1) * k + (xs.length - i) * k = (xs.length + 1) * k := by rw [← Nat.add_mul]; congr 1; omega
  have m2 : (xs.length + 1) * k ≤ cap * k := Nat.mul_le_mul_right k hroom
  have m3 : i * k + k = (i + 1) * k := (Nat.succ_mul i k).symm
  have m4 : (i + 1) * k ≤ (xs.length + 1) * k := Nat.mul_le_mul_right k (by omega)
  obtain ⟨c1, g1, s1, t1⟩ := setCells_row ((xs.drop i).flatMap enc) ((i + 1) * k) w cur hh (by rw [hD, hz]; omega)
  obtain ⟨c2, g2, s2, t2⟩ := setCells_row (enc x) (i * k) _ c1 g1 (by rw [hk, s1, hz]; omega)
  have hl : (xs.take i ++ x :: xs.drop i).length = xs.length + 1 := by simp; omega
  refine Own.ofRow hk g2 hb (by omega) hc (by rw [s2, s1, hz]) ?_
  have hT : (cur.toList.take ((i + 1) * k)).length = (i + 1) * k := by rw [List.length_take, Array.length_toList, hz, Nat.min_eq_left]; omega
  have e1 : c1.toList.take (i * k) = (xs.take i).flatMap enc := by
    rw [t1, List.append_assoc, List.take_append_of_le_length (by rw [hT]; omega), List.take_take, Nat.min_eq_left (by omega), take_row hk hx i hi]
  have e2 : c1.toList.drop (i * k + k) = (xs.drop i).flatMap enc ++ cur.toList.drop ((i + 1) * k + ((xs.drop i).flatMap enc).length) := by
    rw [m3, t1, List.append_assoc]
    conv => lhs; arg 1; rw [← hT]
    rw [List.drop_left]
  have e3 : ((xs.take i ++ x :: xs.drop i).flatMap enc) = (xs.take i).flatMap enc ++ enc x ++ (xs.drop i).flatMap enc := by rw [List.flatMap_append, List.flatMap_cons, List.append_assoc]
  have e4 : (xs.length + 1) * k = ((xs.take i ++ x :: xs.drop i).flatMap enc).length := by rw [cells_len k hk, hl]
  rw [hl, t2, e1, hk, e2, e4, e3, ← List.append_assoc, List.take_left]
/-- .. of a new row, the first cells of which are there -/
theorem Own.insertNew {cur : Array Value} (hk : ∀ x, (enc x).length = k) (hh : w.heap[g]? = some (.cells cur e (0, 0))) (hb : base ≤ g) (hc : cap ≤ maxLen) (hz : cur.size = cap * k) (i : Nat) (hi : i ≤ xs.length) (hroom : xs.length + 1 ≤ cap) (hx : cur.toList.take (i * k) = (xs.take i).flatMap enc) (x : α) :
    Own ((w.setCells g (i * k) (enc x)).setCells g ((i + 1) * k) ((xs.drop i).flatMap enc)) base e k enc (some ⟨g, 0, none⟩) cap (xs.take i ++ x :: xs.drop i) := by
  have hD : ((xs.drop i).flatMap enc).length = (xs.length - i) * k := by rw [cells_len k hk, List.length_drop]
  have m1 : (i + 1) * k + (xs.length - i) * k = (xs.length + 1) * k := by rw [← Nat.add_mul]; congr 1; omega
  have m2 : (xs.length + 1) * k ≤ cap * k := Nat.mul_le_mul_right k hroom
  have m3 : i * k + k = (i + 1) * k := (Nat.succ_mul i k).symm
  have m4 : (i + 1) * k ≤ (xs.length + 1) * k := Nat.mul_le_mul_right k (by omega)
  obtain ⟨c1, g1, s1, t1⟩ := setCells_row (enc x) (i * k) w cur hh (by rw [hk, hz]; omega)
  obtain ⟨c2, g2, s2, t2⟩ := setCells_row ((xs.drop i).flatMap enc) ((i + 1) * k) _ c1 g1 (by rw [hD, s1, hz]; omega)
  have hl : (xs.take i ++ x :: xs.drop i).length = xs.length + 1 := by simp; omega
  refine Own.ofRow hk g2 hb (by omega) hc (by rw [s2, s1, hz]) ?_
  have hT : ((xs.take i).flatMap enc ++ enc x).length = (i + 1) * k := by rw [List.length_append, hk, cells_len k hk, List.length_take, Nat.min_eq_left hi, m3]
  have e1 : c1.toList.take ((i + 1) * k) = (xs.take i).flatMap enc ++ enc x := by
    rw [t1, hx]
    conv => lhs; arg 1; rw [← hT]
    rw [List.take_left]
  have e3 : ((xs.take i ++ x :: xs.drop i).flatMap enc) = (xs.take i).flatMap enc ++ enc x ++ (xs.drop i).flatMap enc := by rw [List.flatMap_append, List.flatMap_cons, List.append_assoc]
  have e4 : (xs.length + 1) * k = ((xs.take i ++ x :: xs.drop i).flatMap enc).length := by rw [cells_len k hk, hl]
  rw [hl, t2, e1, e4, e3, List.take_left]
/-- a thing put over another -/
theorem Own.setAt (h : Own w base e k enc (some ⟨g, 0, none⟩) cap xs) (hk : ∀ x, (enc x).length = k) (i : Nat) (hi : i < xs.length) (x : α) :
    Own (w.setCells g (i * k) (enc x)) base e k enc (some ⟨g, 0, none⟩) cap (xs.set i x) := by
  obtain ⟨cur, hh, hb, hn, hc, hz, hx⟩ := h.rowOf
  have m3 : i * k + k = (i + 1) * k := (Nat.succ_mul i k).symm
  have m4 : (i + 1) * k ≤ xs.length * k := Nat.mul_le_mul_right k (by omega)
  have m5 : xs.length * k ≤ cap * k := Nat.mul_le_mul_right k hn
  obtain ⟨c1, g1, s1, t1⟩ := setCells_row (enc x) (i * k) w cur hh (by rw [hk, hz]; omega)
  refine Own.ofRow hk g1 hb (by rw [List.length_set]; exact hn) hc (by rw [s1, hz]) ?_
  have hD : ((xs.drop (i + 1)).flatMap enc).length = (xs.length - (i + 1)) * k := by rw [cells_len k hk, List.length_drop]
  have e0 : cur.toList.drop ((i + 1) * k) = (xs.drop (i + 1)).flatMap enc ++ cur.toList.drop (xs.length * k) := by
    conv => lhs; rw [← List.take_append_drop (xs.length * k) cur.toList, hx]
    rw [List.drop_append_of_le_length (by rw [cells_len k hk]; exact m4), drop_flat hk]
  have e3 : (xs.set i x).flatMap enc = (xs.take i).flatMap enc ++ enc x ++ (xs.drop (i + 1)).flatMap enc := by
    rw [List.set_eq_take_append_cons_drop, if_pos hi, List.flatMap_append, List.flatMap_cons, List.append_assoc]
  have e4 : xs.length * k = ((xs.set i x).flatMap enc).length := by rw [cells_len k hk, List.length_set]
  rw [List.length_set, t1, take_row hk hx i (by omega), hk, m3, e0, e4, e3, ← List.append_assoc, List.take_left]
end
end Go.Proofs.YtdpildbdbbfamaaDoor
