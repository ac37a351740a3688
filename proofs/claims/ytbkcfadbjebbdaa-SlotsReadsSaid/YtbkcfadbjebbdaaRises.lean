/- Rising keys, and where a key is among them. No program in sight. -/
import Derived.Test.YtbkcfadbjebbdaaSl4
import Derived.Test.YtbkcfadbjebbdaaSearch
namespace Go.Proofs.Ytbkcfadbjebbdaa
open Go.RowKit
set_option linter.unusedVariables false
set_option linter.unusedSimpArgs false
/-- the keys rise -/
def Rises {α : Type} (key : α → ByteArray) (xs : List α) : Prop := ∀ i a b, xs[i]? = some a → xs[i + 1]? = some b → SL (key a) (key b) = true
theorem SL_trans {a b c : ByteArray} (h1 : SL a b = true) (h2 : SL b c = true) : SL a c = true := by
  unfold SL at *
  rw [Go.Proofs.bytesLess_eq] at *
  simp only [decide_eq_true_eq] at *
  exact List.lt_trans h1 h2
theorem SL_irr (a : ByteArray) : SL a a = false := by
  unfold SL
  rw [Go.Proofs.bytesLess_eq]
  simp only [decide_eq_false_iff_not]
  exact List.lt_irrefl _
theorem Rises.lt {α : Type} {key : α → ByteArray} {xs : List α} (h : Rises key xs) : ∀ (d i : Nat) (a b : α), xs[i]? = some a → xs[i + d + 1]? = some b → SL (key a) (key b) = true := by
  intro d
  induction d with
  | zero => intro i a b ha hb; exact h i a b ha hb
  | succ d ih =>
    intro i a b ha hb
    have hlt : i + d + 1 < xs.length := by
      have := (List.getElem?_eq_some_iff.1 hb).1; omega
    have hc := List.getElem?_eq_getElem hlt
    exact SL_trans (ih i a _ ha hc) (h (i + d + 1) _ b hc (by rw [← hb]; congr 1))
theorem Rises.lt' {α : Type} {key : α → ByteArray} {xs : List α} (h : Rises key xs) {i j : Nat} {a b : α} (hij : i < j) (ha : xs[i]? = some a) (hb : xs[j]? = some b) : SL (key a) (key b) = true :=
  h.lt (j - i - 1) i a b ha (by rw [show i + (j - i - 1) + 1 = j by omega]; exact hb)
theorem Rises.mono {α : Type} {key : α → ByteArray} {xs : List α} (h : Rises key xs) (k : ByteArray) (a b : Nat) (x y : α) (hab : a ≤ b) (hx : xs[a]? = some x) (hy : xs[b]? = some y) (hs : Op.bytesLess (key x).toList k.toList = false) : Op.bytesLess (key y).toList k.toList = false := by
  rcases Nat.lt_or_eq_of_le hab with hlt | rfl
  · cases hc : Op.bytesLess (key y).toList k.toList with
    | false => rfl
    | true =>
      have h1 := SL_trans (h.lt' hlt hx hy) hc
      unfold SL at h1
      rw [hs] at h1; cases h1
  · rw [hx] at hy; cases hy; exact hs
theorem Rises.at {α : Type} {key : α → ByteArray} {xs : List α} (h : Rises key xs) (k : ByteArray) (i : Nat) (x : α) (hx : xs[i]? = some x) : decide (i < fdAt key xs k) = Op.bytesLess (key x).toList k.toList := by
  have hlt := (List.getElem?_eq_some_iff.1 hx).1
  cases hb : Op.bytesLess (key x).toList k.toList with
  | true =>
    rw [decide_eq_true_eq]
    rcases Nat.lt_or_ge i (fdAt key xs k) with h1 | h1
    · exact h1
    · have hd : fdAt key xs k < xs.length := by omega
      have hp : (!Op.bytesLess (key xs[fdAt key xs k]).toList k.toList) = true := List.findIdx_getElem (w := hd)
      have h2 := h.mono k _ _ _ _ h1 (List.getElem?_eq_getElem hd) hx (by simpa using hp)
      rw [h2] at hb; cases hb
  | false =>
    rw [decide_eq_false_iff_not]
    intro h1
    have := List.not_of_lt_findIdx h1
    rw [(List.getElem?_eq_some_iff.1 hx).2] at this
    simp [hb] at this
theorem Rises.is {α : Type} {key : α → ByteArray} {xs : List α} (h : Rises key xs) (k : ByteArray) (i : Nat) (x : α) (hx : xs[i]? = some x) : (decide (i = fdAt key xs k) && fdIs key xs k) = ((key x).toList == k.toList) := by
  by_cases he : i = fdAt key xs k
  · unfold fdIs
    rw [← he, hx]
    simp
  · have h1 := h.at k i x hx
    rw [decide_eq_false he, Bool.false_and]
    symm
    rw [beq_eq_false_iff_ne]
    intro hk
    have hn : Op.bytesLess (key x).toList k.toList = false := by
      rw [hk]; have := SL_irr k; exact this
    rw [hn, decide_eq_false_iff_not] at h1
    have hlt := (List.getElem?_eq_some_iff.1 hx).1
    have hd : fdAt key xs k < xs.length := by omega
    have h2 := h.lt' (show fdAt key xs k < i by omega) (List.getElem?_eq_getElem hd) hx
    have hp : (!Op.bytesLess (key xs[fdAt key xs k]).toList k.toList) = true := List.findIdx_getElem (w := hd)
    unfold SL at h2
    rw [hk] at h2
    have : Op.bytesLess (key xs[fdAt key xs k]).toList k.toList = false := by simpa using hp
    rw [this] at h2; cases h2
end Go.Proofs.Ytbkcfadbjebbdaa
