/- Layer 20: which keys a pattern means: all ways tried, and place by place. No program in sight. -/
import Derived.Test.YtdpildbdbbfamaaDoorBase
namespace Go.Proofs.YtdpildbdbbfamaaDoor
set_option linter.unusedVariables false
set_option linter.unusedSimpArgs false
/-- two words are one -/
def isW (a b : ByteArray) : Bool := a.toList == b.toList
theorem isW_comm (a b : ByteArray) : isW a b = isW b a := by
  unfold isW
  rw [Bool.eq_iff_iff, beq_iff_eq, beq_iff_eq]
  exact ⟨fun h => h.symm, fun h => h.symm⟩
def hashW : ByteArray := ⟨#[35]⟩
def starW : ByteArray := ⟨#[42]⟩
/-- the document's: all ways -/
def mtL : List ByteArray → List ByteArray → Bool
  | [], k => k.isEmpty
  | p :: ps, k => if isW p hashW = true then (List.range (k.length + 1)).any (fun i => mtL ps (k.drop i)) else
    match k with
    | [] => false
    | w :: ws => (isW p starW || isW p w) && mtL ps ws
theorem mt_hash {p : ByteArray} (h : isW p hashW = true) (ps k : List ByteArray) : mtL (p :: ps) k = true ↔ ∃ j, j ≤ k.length ∧ mtL ps (k.drop j) = true := by
  have e : mtL (p :: ps) k = (List.range (k.length + 1)).any (fun i => mtL ps (k.drop i)) := by
    cases k <;> (rw [mtL]; rw [if_pos h])
  rw [e, List.any_eq_true]
  constructor
  · rintro ⟨j, hj, h1⟩
    exact ⟨j, by rw [List.mem_range] at hj; omega, h1⟩
  · rintro ⟨j, hj, h1⟩
    exact ⟨j, by rw [List.mem_range]; omega, h1⟩
theorem mt_one {p : ByteArray} (h : isW p hashW = false) (ps : List ByteArray) (w : ByteArray) (ws : List ByteArray) : mtL (p :: ps) (w :: ws) = ((isW p starW || isW p w) && mtL ps ws) := by
  rw [mtL]
  rw [if_neg (by rw [h]; decide)]
theorem mt_none {p : ByteArray} (h : isW p hashW = false) (ps : List ByteArray) : mtL (p :: ps) [] = false := by
  rw [mtL]
  rw [if_neg (by rw [h]; decide)]
theorem mt_app (qs : List ByteArray) : ∀ (ps k : List ByteArray), mtL (ps ++ qs) k = true ↔ ∃ i, i ≤ k.length ∧ mtL ps (k.take i) = true ∧ mtL qs (k.drop i) = true
  | [], k => by
    constructor
    · intro h
      exact ⟨0, by omega, by simp [mtL], by simpa using h⟩
    · rintro ⟨i, hi, h1, h2⟩
      have h3 : (k.take i).length = 0 := by
        have : k.take i = [] := by simpa [mtL] using h1
        rw [this]; rfl
      rw [List.length_take] at h3
      have h4 : i = 0 := by omega
      subst h4
      simpa using h2
  | p :: ps, k => by
    cases hp : isW p hashW with
    | true =>
      rw [List.cons_append, mt_hash hp]
      constructor
      · rintro ⟨j, hj, h1⟩
        obtain ⟨i, hi, h2, h3⟩ := (mt_app qs ps (k.drop j)).1 h1
        rw [List.length_drop] at hi
        refine ⟨j + i, by omega, (mt_hash hp _ _).2 ⟨j, by rw [List.length_take]; omega, ?_⟩, ?_⟩
        · rw [List.drop_take]
          rw [show j + i - j = i by omega]
          exact h2
        · rw [List.drop_drop] at h3
          exact h3
      · rintro ⟨i, hi, h1, h2⟩
        obtain ⟨j, hj, h3⟩ := (mt_hash hp _ _).1 h1
        rw [List.length_take] at hj
        refine ⟨j, by omega, (mt_app qs ps (k.drop j)).2 ⟨i - j, by rw [List.length_drop]; omega, ?_, ?_⟩⟩
        · rw [List.drop_take] at h3
          exact h3
        · rw [List.drop_drop]
          rw [show j + (i - j) = i by omega]
          exact h2
    | false =>
      rw [List.cons_append]
      cases k with
      | nil =>
        rw [mt_none hp]
        constructor
        · intro h; cases h
        · rintro ⟨i, hi, h1, h2⟩
          rw [List.take_nil, mt_none hp] at h1
          cases h1
      | cons w ws =>
        rw [mt_one hp, Bool.and_eq_true]
        constructor
        · rintro ⟨h1, h2⟩
          obtain ⟨i, hi, h3, h4⟩ := (mt_app qs ps ws).1 h2
          exact ⟨i + 1, by simp; omega, by rw [List.take_succ_cons, mt_one hp, h1, h3]; rfl, h4⟩
        · rintro ⟨i, hi, h1, h2⟩
          cases i with
          | zero =>
            rw [List.take_zero, mt_none hp] at h1
            cases h1
          | succ i =>
            rw [List.take_succ_cons, mt_one hp, Bool.and_eq_true] at h1
            exact ⟨h1.1, (mt_app qs ps ws).2 ⟨i, by simp at hi; omega, h1.2, h2⟩⟩
/-- the code's: which places behind a part, given those ahead of it -/
def oA (ahead : Nat → Bool) (p : ByteArray) (ws : List ByteArray) : Nat → Bool
  | 0 => isW p hashW && ahead 0
  | i + 1 => if isW p hashW = true then ahead (i + 1) || oA ahead p ws i else ahead i && (isW p starW || isW (ws[i]?.getD .empty) p)
theorem oA_right (ps : List ByteArray) (p : ByteArray) (ws : List ByteArray) (ahead : Nat → Bool) (ha : ∀ j, j ≤ ws.length → ahead j = mtL ps (ws.take j)) : ∀ j, j ≤ ws.length → oA ahead p ws j = mtL (ps ++ [p]) (ws.take j) := by
  intro j
  cases hp : isW p hashW with
  | true =>
    have hq : ∀ j, j ≤ ws.length → (oA ahead p ws j = true ↔ ∃ i, i ≤ j ∧ ahead i = true) := by
      intro j
      induction j with
      | zero =>
        intro _
        unfold oA
        rw [hp, Bool.true_and]
        exact ⟨fun h => ⟨0, by omega, h⟩, fun ⟨i, hi, h⟩ => by obtain rfl : i = 0 := by omega
                                                               exact h⟩
      | succ j ih =>
        intro hj
        unfold oA
        rw [if_pos hp, Bool.or_eq_true, ih (by omega)]
        constructor
        · rintro (h | ⟨i, hi, h⟩)
          · exact ⟨j + 1, by omega, h⟩
          · exact ⟨i, by omega, h⟩
        · rintro ⟨i, hi, h⟩
          by_cases he : i = j + 1
          · subst he; exact .inl h
          · exact .inr ⟨i, by omega, h⟩
    intro hj
    rw [Bool.eq_iff_iff, hq j hj, mt_app]
    have hl : (ws.take j).length = j := by rw [List.length_take]; omega
    constructor
    · rintro ⟨i, hi, h⟩
      refine ⟨i, by omega, ?_, (mt_hash hp _ _).2 ⟨(List.drop i (ws.take j)).length, Nat.le_refl _, by rw [List.drop_length]; rfl⟩⟩
      rw [List.take_take, Nat.min_eq_left hi, ← ha i (by omega)]
      exact h
    · rintro ⟨i, hi, h1, h2⟩
      rw [hl] at hi
      refine ⟨i, hi, ?_⟩
      rw [ha i (by omega)]
      rw [List.take_take, Nat.min_eq_left hi] at h1
      exact h1
  | false =>
    intro hj
    cases j with
    | zero =>
      unfold oA
      rw [hp, Bool.false_and, List.take_zero]
      cases h : mtL (ps ++ [p]) [] with
      | false => rfl
      | true =>
        obtain ⟨i, hi, h1, h2⟩ := (mt_app [p] ps []).1 h
        rw [List.drop_nil, mt_none hp] at h2
        cases h2
    | succ j =>
      unfold oA
      rw [if_neg (by rw [hp]; decide), ha j (by omega)]
      have hlt : j < ws.length := by omega
      have hl : (ws.take (j + 1)).length = j + 1 := by rw [List.length_take]; omega
      have hget : ws[j]?.getD .empty = ws[j] := by rw [List.getElem?_eq_getElem hlt]; rfl
      rw [hget, Bool.eq_iff_iff, Bool.and_eq_true, mt_app]
      have hd : List.drop j (ws.take (j + 1)) = [ws[j]] := by
        rw [List.take_succ_eq_append_getElem hlt, List.drop_append_of_le_length (by rw [List.length_take]; omega), List.drop_of_length_le (by rw [List.length_take]; omega)]
        rfl
      have h1p : ∀ w : ByteArray, mtL [p] [w] = (isW p starW || isW p w) := fun w => by
        rw [mt_one hp]
        simp [mtL]
      constructor
      · rintro ⟨h1, h2⟩
        refine ⟨j, by omega, ?_, ?_⟩
        · rw [List.take_take, Nat.min_eq_left (by omega)]
          exact h1
        · rw [hd, h1p, isW_comm p ws[j]]
          exact h2
      · rintro ⟨i, hi, h1, h2⟩
        rw [hl] at hi
        have hi2 : i = j := by
          have hlen : (List.drop i (ws.take (j + 1))).length = j + 1 - i := by rw [List.length_drop, hl]
          cases hdd : List.drop i (ws.take (j + 1)) with
          | nil => rw [hdd, mt_none hp] at h2; cases h2
          | cons w rest =>
            rw [hdd, mt_one hp, Bool.and_eq_true] at h2
            have h3 : rest = [] := by simpa [mtL] using h2.2
            rw [hdd, h3] at hlen
            simp at hlen
            omega
        subst hi2
        rw [List.take_take, Nat.min_eq_left (by omega)] at h1
        rw [hd, h1p, isW_comm p ws[i]] at h2
        exact ⟨h1, h2⟩
/-- the parts of a text -/
def splitW : List UInt8 → List (List UInt8)
  | [] => [[]]
  | c :: s => if c = 46 then [] :: splitW s else
    match splitW s with
    | [] => [[c]]
    | w :: ws => (c :: w) :: ws
theorem split_ne (s : List UInt8) : splitW s ≠ [] := by
  cases s with
  | nil => simp [splitW]
  | cons c s =>
    unfold splitW
    split
    · simp
    · split <;> simp
theorem split_none : ∀ (s : List UInt8), (∀ c ∈ s, c ≠ 46) → splitW s = [s]
  | [], _ => rfl
  | c :: s, h => by
    unfold splitW
    rw [if_neg (h c (by simp)), split_none s (fun d hd => h d (by simp [hd]))]
theorem split_at : ∀ (a r : List UInt8), (∀ c ∈ a, c ≠ 46) → splitW (a ++ 46 :: r) = a :: splitW r
  | [], r, _ => by
    rw [List.nil_append, splitW, if_pos rfl]
  | c :: a, r, h => by
    rw [List.cons_append, splitW, if_neg (h c (by simp)), split_at a r (fun d hd => h d (by simp [hd]))]
theorem split_len : ∀ (s : List UInt8), (splitW s).length = s.count 46 + 1
  | [] => rfl
  | c :: s => by
    have ih := split_len s
    unfold splitW
    by_cases h : c = 46
    · rw [if_pos h]
      subst h
      simp [ih]
    · rw [if_neg h]
      have hc : (c :: s).count 46 = s.count 46 := by
        rw [List.count_cons, if_neg (by simpa using h)]
        rfl
      rw [hc]
      cases hs : splitW s with
      | nil => exact absurd hs (split_ne s)
      | cons w ws => rw [hs] at ih; exact ih
def wordsL (s : List UInt8) : List (List UInt8) := if s = [] then [] else splitW s
end Go.Proofs.YtdpildbdbbfamaaDoor
