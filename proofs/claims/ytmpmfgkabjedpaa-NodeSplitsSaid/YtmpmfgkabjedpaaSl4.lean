/- Layer 6: may cells be so? By lists. -/
import Derived.Test.YtmpmfgkabjedpaaSl2
import Derived.Sort.Walk0
import Derived.Laws.Cover1
namespace Go.Proofs.Ytmpmfgkabjedpaa
open Go.RowKit
set_option linter.unusedVariables false
set_option linter.unusedSimpArgs false
abbrev SL (a b : ByteArray) : Bool := Op.bytesLess a.toList b.toList
theorem bl_total (x y : List UInt8) : (Op.bytesLess y x || y == x) = !Op.bytesLess x y := by
  rw [Go.Proofs.bytesLess_eq, Go.Proofs.bytesLess_eq]
  by_cases h1 : x < y
  · have h2 : ¬ y < x := fun h => List.lt_irrefl x (List.lt_trans h1 h)
    have h3 : ¬ y = x := fun h => by subst h; exact List.lt_irrefl _ h1
    simp [h1, h2, h3]
  · by_cases h3 : y = x
    · subst h3; simp [h1]
    · have h2 : y < x := by
        rcases List.le_iff_lt_or_eq.1 (List.not_lt.1 h1) with h | h
        · exact h
        · exact absurd h h3
      simp [h1, h2]
open Classical in
noncomputable def rErr {α : Type} (bad : α → Bool) (key : α → ByteArray) (xs : List α) : Int :=
  if ∃ x ∈ xs, bad x = true then 5 else if ∃ i a b, xs[i]? = some a ∧ xs[i + 1]? = some b ∧ SL (key a) (key b) = false then 30 else 0
theorem rErr_bad {α : Type} {bad : α → Bool} {key : α → ByteArray} {xs : List α} {x : α} (h : x ∈ xs) (hb : bad x = true) : rErr bad key xs = 5 := by
  unfold rErr; rw [if_pos ⟨x, h, hb⟩]
theorem rErr_ord {α : Type} {bad : α → Bool} {key : α → ByteArray} {xs : List α} (h : ∀ x ∈ xs, bad x = false) {i : Nat} {a b : α} (ha : xs[i]? = some a) (hb : xs[i + 1]? = some b) (ho : SL (key a) (key b) = false) : rErr bad key xs = 30 := by
  unfold rErr
  rw [if_neg, if_pos ⟨i, a, b, ha, hb, ho⟩]
  rintro ⟨x, hx, hb⟩
  rw [h x hx] at hb; cases hb
theorem rErr_ok {α : Type} {bad : α → Bool} {key : α → ByteArray} {xs : List α} (h : ∀ x ∈ xs, bad x = false) (ho : ∀ i a b, xs[i]? = some a → xs[i + 1]? = some b → SL (key a) (key b) = true) : rErr bad key xs = 0 := by
  unfold rErr
  rw [if_neg, if_neg]
  · rintro ⟨i, a, b, h1, h2, h3⟩
    rw [ho i a b h1 h2] at h3; cases h3
  · rintro ⟨x, hx, hb⟩
    rw [h x hx] at hb; cases hb
def ceBad (x : Ce) : Bool := decide (255 < x.1.size) || !ceFits x.2.1 x.2.2.1
def keyBad {α : Type} (x : ByteArray × α) : Bool := decide (255 < x.1.size)
end Go.Proofs.Ytmpmfgkabjedpaa
