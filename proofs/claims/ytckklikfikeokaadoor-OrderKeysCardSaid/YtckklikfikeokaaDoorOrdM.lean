/- Layer 4: the bytes of a row of parts keep its order. No program in sight. -/
import Derived.Test.YtckklikfikeokaaDoorOctMath
namespace Go.Proofs.YtckklikfikeokaaDoor
set_option linter.unusedVariables false
set_option linter.unusedSimpArgs false
/-- a text's bytes, a zero followed by 255 -/
def esc : List UInt8 → List UInt8
  | [] => []
  | c :: l => if c = 0 then 0 :: 255 :: esc l else c :: esc l
/-- a part: is it a text, its number, its text -/
abbrev Pa := Bool × Nat × ByteArray
def paB (p : Pa) : List UInt8 := if p.1 then 2 :: (esc p.2.2.data.toList ++ [0, 0]) else 1 :: Oct.be p.2.1 8
def keyB (l : List Pa) : List UInt8 := l.flatMap paB
def paP (p : Pa) : Pa := if p.1 then (true, 0, p.2.2) else (false, p.2.1, .empty)
def paOk (p : Pa) : Prop := p.2.1 < 18446744073709551616
def isPlain (p : Pa) : Prop := if p.1 then p.2.1 = 0 else p.2.2 = .empty
theorem paP_plain (p : Pa) : isPlain (paP p) := by
  obtain ⟨t, n, s⟩ := p
  cases t <;> simp [isPlain, paP]
theorem paB_P (p : Pa) : paB (paP p) = paB p := by
  obtain ⟨t, n, s⟩ := p
  cases t <;> simp [paB, paP]
theorem keyB_P (l : List Pa) : keyB (l.map paP) = keyB l := by
  unfold keyB
  rw [List.flatMap_map]
  congr 1
  funext p
  exact paB_P p
open Classical in
/-- is a part ahead of another one? -/
noncomputable def paLt (p q : Pa) : Bool := if p.1 = q.1 then (if p.1 then decide (p.2.2.data.toList < q.2.2.data.toList) else decide (p.2.1 < q.2.1)) else q.1
/-- two texts that part at one byte -/
def Dif (x y : List UInt8) (lt : Prop) : Prop := ∃ c u v r s, x = c ++ u :: r ∧ y = c ++ v :: s ∧ u ≠ v ∧ (u < v ↔ lt)
theorem Dif.pre {x y : List UInt8} {lt : Prop} (h : Dif x y lt) (p : List UInt8) : Dif (p ++ x) (p ++ y) lt := by
  obtain ⟨c, u, v, r, s, rfl, rfl, h1, h2⟩ := h
  exact ⟨p ++ c, u, v, r, s, by simp, by simp, h1, h2⟩
theorem Dif.suf {x y : List UInt8} {lt : Prop} (h : Dif x y lt) (p q : List UInt8) : Dif (x ++ p) (y ++ q) lt := by
  obtain ⟨c, u, v, r, s, rfl, rfl, h1, h2⟩ := h
  exact ⟨c, u, v, r ++ p, s ++ q, by simp, by simp, h1, h2⟩
theorem Dif.cons {x y : List UInt8} {lt : Prop} (h : Dif x y lt) (a : UInt8) : Dif (a :: x) (a :: y) lt := h.pre [a]
theorem Dif.congr {x y : List UInt8} {p q : Prop} (h : Dif x y p) (he : p ↔ q) : Dif x y q := by
  obtain ⟨c, u, v, r, s, h1, h2, h3, h4⟩ := h
  exact ⟨c, u, v, r, s, h1, h2, h3, h4.trans he⟩
theorem u8_lt_asymm {a b : UInt8} (h : a < b) : ¬ b < a := by
  rw [UInt8.lt_iff_toNat_lt] at *; omega
theorem u8_lt_or {a b : UInt8} (h : a ≠ b) : a < b ∨ b < a := by
  rw [UInt8.lt_iff_toNat_lt, UInt8.lt_iff_toNat_lt]
  have : a.toNat ≠ b.toNat := fun he => h (UInt8.toNat.inj he)
  omega
theorem Dif.lt {x y : List UInt8} {lt : Prop} (h : Dif x y lt) : x < y ↔ lt := by
  obtain ⟨c, u, v, r, s, rfl, rfl, h3, h4⟩ := h
  rw [← h4]
  induction c with
  | nil =>
    simp only [List.nil_append, List.cons_lt_cons_iff]
    constructor
    · rintro (h | ⟨h, _⟩)
      · exact h
      · exact absurd h h3
    · exact fun h => .inl h
  | cons a c ih =>
    simp only [List.cons_append, List.cons_lt_cons_iff]
    constructor
    · rintro (h | ⟨_, h⟩)
      · exact absurd h (by rw [UInt8.lt_iff_toNat_lt]; omega)
      · exact ih.1 h
    · exact fun h => .inr ⟨trivial, ih.2 h⟩
theorem Dif.ne {x y : List UInt8} {lt : Prop} (h : Dif x y lt) : x ≠ y := by
  obtain ⟨c, u, v, r, s, rfl, rfl, h3, h4⟩ := h
  intro he
  simp only [List.append_cancel_left_eq, List.cons.injEq] at he
  exact h3 he.1
theorem Dif.nopre {x y : List UInt8} {lt : Prop} (h : Dif x y lt) : ¬ x <+: y := by
  obtain ⟨c, u, v, r, s, rfl, rfl, h3, h4⟩ := h
  rintro ⟨t, ht⟩
  simp only [List.append_assoc, List.append_cancel_left_eq, List.cons_append, List.cons.injEq] at ht
  exact h3 ht.1
theorem esc_dif : ∀ (s t : List UInt8), s ≠ t → Dif (esc s ++ [0, 0]) (esc t ++ [0, 0]) (s < t)
  | [], [], h => absurd rfl h
  | [], d :: t, _ => by
    have h0 : ([] : List UInt8) < d :: t := by simp
    by_cases hd : d = 0
    · subst hd
      exact ⟨[0], 0, 255, [], esc t ++ [0, 0], by simp [esc], by simp [esc], by decide, by simp only [h0, iff_true]; decide⟩
    · refine ⟨[], 0, d, [0], esc t ++ [0, 0], by simp [esc], by simp [esc, hd], fun h => hd h.symm, ?_⟩
      simp only [h0, iff_true]
      rcases u8_lt_or (a := 0) (b := d) (fun h => hd h.symm) with h | h
      · exact h
      · rw [UInt8.lt_iff_toNat_lt] at h; simp at h
  | c :: s, [], _ => by
    have h0 : ¬ (c :: s) < [] := by simp
    by_cases hd : c = 0
    · subst hd
      exact ⟨[0], 255, 0, esc s ++ [0, 0], [], by simp [esc], by simp [esc], by decide, by simp only [h0, iff_false]; decide⟩
    · refine ⟨[], c, 0, esc s ++ [0, 0], [0], by simp [esc, hd], by simp [esc], hd, ?_⟩
      simp only [h0, iff_false]
      rw [UInt8.lt_iff_toNat_lt]; simp
  | c :: s, d :: t, h => by
    by_cases hcd : c = d
    · subst hcd
      have ih := esc_dif s t (fun e => h (by rw [e]))
      have he : (s < t) ↔ (c :: s < c :: t) := by
        rw [List.cons_lt_cons_iff]
        constructor
        · exact fun h => .inr ⟨rfl, h⟩
        · rintro (h | ⟨_, h⟩)
          · exact absurd h (by rw [UInt8.lt_iff_toNat_lt]; omega)
          · exact h
      by_cases hc : c = 0
      · subst hc
        have := (ih.pre [0, 255]).congr he
        simpa [esc] using this
      · have := (ih.pre [c]).congr he
        simpa [esc, hc] using this
    · have he : (c < d) ↔ (c :: s < d :: t) := by
        rw [List.cons_lt_cons_iff]
        constructor
        · exact fun h => .inl h
        · rintro (h | ⟨h, _⟩)
          · exact h
          · exact absurd h hcd
      by_cases hc : c = 0
      · subst hc
        have hd : d ≠ 0 := fun e => hcd e.symm
        exact ⟨[], 0, d, 255 :: (esc s ++ [0, 0]), esc t ++ [0, 0], by simp [esc], by simp [esc, hd], hcd, he⟩
      · by_cases hd : d = 0
        · subst hd
          exact ⟨[], c, 0, esc s ++ [0, 0], 255 :: (esc t ++ [0, 0]), by simp [esc, hc], by simp [esc], hcd, he⟩
        · exact ⟨[], c, d, esc s ++ [0, 0], esc t ++ [0, 0], by simp [esc, hc], by simp [esc, hd], hcd, he⟩
theorem be_dif (k : Nat) : ∀ (n m : Nat), n < 256 ^ k → m < 256 ^ k → n ≠ m → Dif (Oct.be n k) (Oct.be m k) (n < m) := by
  induction k with
  | zero => intro n m h1 h2 h; simp at h1 h2; omega
  | succ k ih =>
    intro n m h1 h2 h
    rw [Nat.pow_succ] at h1 h2
    by_cases hd : n / 256 = m / 256
    · refine ⟨Oct.be (n / 256) k, UInt8.ofNat n, UInt8.ofNat m, [], [], rfl, by rw [hd]; rfl, ?_, ?_⟩
      · intro he
        have := congrArg UInt8.toNat he
        rw [UInt8.toNat_ofNat', UInt8.toNat_ofNat'] at this
        omega
      · rw [UInt8.lt_iff_toNat_lt, UInt8.toNat_ofNat', UInt8.toNat_ofNat']
        omega
    · exact ((ih (n / 256) (m / 256) (by omega) (by omega) hd).suf _ _).congr (by omega)
theorem bytes_ext {s t : ByteArray} (h : s.data.toList = t.data.toList) : s = t := by
  apply ByteArray.ext; apply Array.ext'; exact h
theorem pa_dif {p q : Pa} (hp : isPlain p) (hq : isPlain q) (op : paOk p) (oq : paOk q) (h : p ≠ q) : Dif (paB p) (paB q) (paLt p q = true) := by
  obtain ⟨t, n, s⟩ := p
  obtain ⟨u, m, r⟩ := q
  cases t <;> cases u
  · simp only [isPlain] at hp hq
    have hp : s = .empty := by simpa using hp
    have hq : r = .empty := by simpa using hq
    subst hp hq
    have hnm : n ≠ m := fun e => h (by rw [e])
    refine ((be_dif 8 n m op oq hnm).cons 1).congr ?_
    simp [paLt]
  · exact ⟨[], 1, 2, Oct.be n 8, esc r.data.toList ++ [0, 0], rfl, rfl, by decide, by simp [paLt]⟩
  · exact ⟨[], 2, 1, esc s.data.toList ++ [0, 0], Oct.be m 8, rfl, rfl, by decide, by simp [paLt]⟩
  · simp only [isPlain] at hp hq
    have hp : n = 0 := by simpa using hp
    have hq : m = 0 := by simpa using hq
    subst hp hq
    have hnm : s.data.toList ≠ r.data.toList := fun e => h (by rw [bytes_ext e])
    refine ((esc_dif _ _ hnm).cons 2).congr ?_
    simp [paLt]
theorem paB_ne (p : Pa) : paB p ≠ [] := by unfold paB; split <;> simp
/-- is a row ahead of another one? -/
noncomputable def rowLt : List Pa → List Pa → Bool
  | [], [] => false
  | [], _ :: _ => true
  | _ :: _, [] => false
  | p :: a, q :: b => open Classical in if p = q then rowLt a b else paLt p q
theorem key_dif : ∀ (a b : List Pa), (∀ p ∈ a, isPlain p ∧ paOk p) → (∀ p ∈ b, isPlain p ∧ paOk p) → (∃ t, b = a ++ t) ∨ (∃ t, t ≠ [] ∧ a = b ++ t) ∨ Dif (keyB a) (keyB b) (rowLt a b = true)
  | [], b, _, _ => .inl ⟨b, rfl⟩
  | p :: a, [], _, _ => .inr (.inl ⟨p :: a, by simp, rfl⟩)
  | p :: a, q :: b, ha, hb => by
    by_cases h : p = q
    · subst h
      rcases key_dif a b (fun x hx => ha x (by simp [hx])) (fun x hx => hb x (by simp [hx])) with ⟨t, rfl⟩ | ⟨t, ht, rfl⟩ | h
      · exact .inl ⟨t, rfl⟩
      · exact .inr (.inl ⟨t, ht, rfl⟩)
      · refine .inr (.inr ?_)
        have := (h.pre (paB p)).congr (q := rowLt (p :: a) (p :: b) = true) (by simp [rowLt])
        simpa [keyB] using this
    · refine .inr (.inr ?_)
      have h1 := ha p (by simp)
      have h2 := hb q (by simp)
      have := ((pa_dif h1.1 h2.1 h1.2 h2.2 h).suf (keyB a) (keyB b)).congr (q := rowLt (p :: a) (q :: b) = true) (by simp [rowLt, h])
      simpa [keyB] using this
theorem rowLt_app (a t : List Pa) : rowLt a (a ++ t) = !t.isEmpty := by
  induction a with
  | nil => cases t <;> rfl
  | cons p a ih => simp [rowLt, ih]
theorem rowLt_app' (a t : List Pa) : rowLt (a ++ t) a = false := by
  induction a with
  | nil => cases t <;> rfl
  | cons p a ih => simp [rowLt, ih]
theorem keyB_app (a t : List Pa) : keyB (a ++ t) = keyB a ++ keyB t := by unfold keyB; rw [List.flatMap_append]
theorem keyB_ne {t : List Pa} (h : t ≠ []) : keyB t ≠ [] := by
  cases t with
  | nil => exact absurd rfl h
  | cons p t => unfold keyB; simp [paB_ne]
theorem lt_app (x t : List UInt8) : x < x ++ t ↔ t ≠ [] := by
  induction x with
  | nil => cases t <;> simp
  | cons a x ih =>
    simp only [List.cons_append, List.cons_lt_cons_iff]
    rw [ih]
    constructor
    · rintro (h | ⟨_, h⟩)
      · exact absurd h (by rw [UInt8.lt_iff_toNat_lt]; omega)
      · exact h
    · exact fun h => .inr ⟨trivial, h⟩
theorem not_lt_app (x t : List UInt8) : ¬ (x ++ t < x) := by
  induction x with
  | nil => simp
  | cons a x ih =>
    simp only [List.cons_append, List.cons_lt_cons_iff]
    rintro (h | ⟨_, h⟩)
    · exact absurd h (by rw [UInt8.lt_iff_toNat_lt]; omega)
    · exact ih h
/-- keys stand in the order of their rows; a row's key begins those that go on from it -/
theorem key_order (a b : List Pa) (ha : ∀ p ∈ a, isPlain p ∧ paOk p) (hb : ∀ p ∈ b, isPlain p ∧ paOk p) :
    (keyB a < keyB b ↔ rowLt a b = true) ∧ (keyB a = keyB b ↔ a = b) ∧ (keyB a <+: keyB b ↔ a <+: b) := by
  rcases key_dif a b ha hb with ⟨t, rfl⟩ | ⟨t, ht, rfl⟩ | h
  · rw [keyB_app, rowLt_app, lt_app]
    refine ⟨?_, ?_, ?_⟩
    · cases t with
      | nil => simp [keyB]
      | cons p t => simp [keyB_ne (t := p :: t) (by simp)]
    · cases t with
      | nil => simp [keyB]
      | cons p t => simp [keyB_ne (t := p :: t) (by simp)]
    · exact ⟨fun _ => ⟨t, rfl⟩, fun _ => ⟨keyB t, rfl⟩⟩
  · rw [keyB_app, rowLt_app']
    have hne := keyB_ne ht
    refine ⟨?_, ?_, ?_⟩
    · simp [not_lt_app]
    · simp [hne, ht]
    · constructor
      · intro h
        have := h.length_le
        rw [List.length_append] at this
        exact absurd (List.eq_nil_of_length_eq_zero (by omega)) hne
      · intro h
        have := h.length_le
        rw [List.length_append] at this
        exact absurd (List.eq_nil_of_length_eq_zero (by omega)) ht
  · refine ⟨h.lt, ?_, ?_⟩
    · exact ⟨fun e => absurd e h.ne, fun e => absurd (by rw [e]) h.ne⟩
    · refine ⟨fun e => absurd e h.nopre, ?_⟩
      rintro ⟨t, rfl⟩
      exact absurd ⟨keyB t, (keyB_app a t).symm⟩ h.nopre
end Go.Proofs.YtckklikfikeokaaDoor
