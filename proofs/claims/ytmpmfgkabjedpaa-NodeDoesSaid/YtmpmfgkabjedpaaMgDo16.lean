/- Layer 10: the example; rows of blocks. -/
import Derived.Test.YtmpmfgkabjedpaaMgDo04
import Derived.Test.YtmpmfgkabjedpaaMgDo10
import Derived.Test.YtmpmfgkabjedpaaMgDo15
namespace Go.Proofs.Ytmpmfgkabjedpaa
open Go.RowKit
set_option linter.unusedVariables false
set_option linter.unusedSimpArgs false
set_option maxRecDepth 100000
set_option maxHeartbeats 4000000
def awA : Ce := (⟨#[97]⟩, .empty, 0, 0)
def awB : Ce := (⟨#[98]⟩, .empty, 0, 0)
theorem aw_at : hfAt lfSum [awA, awB] = 1 := by decide
theorem aw_A : spA lfSum [awA, awB] = [awA] := by unfold spA; rw [aw_at]; rfl
theorem aw_B : spB lfSum [awA, awB] = [awB] := by unfold spB; rw [aw_at]; rfl
def RowT (w : World) (b : Nat) (cs : Array Value) (t : TypeId) : Prop := w.heap[b]? = some (.cells cs t (0, 0))
theorem RowT.gr {w w' : World} {b : Nat} {cs : Array Value} {t : TypeId} (h : RowT w b cs t) (hg : Gr w w') : RowT w' b cs t := (hg.block (lt_of_row h)).trans h
theorem RowT.cell {w : World} {b : Nat} {cs : Array Value} {t : TypeId} (h : RowT w b cs t) (i : Nat) (v : Value) (hv : cs[i]? = some v) : w.cell? ⟨b, i, none⟩ = some v := row_cell h i v hv
theorem rows2 (w : World) {ca cb : Array Value} {t t2 : TypeId} (a b : Obj) (ha : a = .cells ca t (0, 0) := by rfl) (hb : b = .cells cb t2 (0, 0) := by rfl) : RowT ((w.alloc a).alloc b) w.heap.size ca t ∧ RowT ((w.alloc a).alloc b) (w.heap.size + 1) cb t2 := by
  subst ha hb
  have h1 := heap_alloc_last (w.alloc (.cells ca t (0, 0))) (.cells cb t2 (0, 0))
  rw [alloc_size] at h1
  exact ⟨(((Gr.refl (w.alloc (.cells ca t (0, 0)))).alloc _).block (k := w.heap.size) (by rw [alloc_size]; omega)).trans (heap_alloc_last w _), h1⟩
theorem law10_awake (w : World) : Calls Try.prog 7 #[] w fun r w' => r = .returned (.bool true) ∧ Gr w w' := by
  have cS : Hid (∀ v w1, LfAt w1 v [awA, awB] → Calls Try.prog 10 #[v] w1 fun r w' => ∃ A1 c1 A2 c2, r = .returned (.tuple #[.agg #[.bool true, .slice A1 1 c1, .slice none 0 0], .string ⟨#[98]⟩, .agg #[.bool true, .slice A2 1 c2, .slice none 0 0]]) ∧ Gr w1 w') := by
    intro v w1 h
    have hok : ∀ x ∈ [awA, awB], ceOk x := by
      intro x hx; simp only [List.mem_cons, List.not_mem_nil, or_false] at hx; rcases hx with rfl | rfl <;> exact ⟨by decide, by decide, by decide, by decide⟩
    refine (lf_split v [awA, awB] (by decide) hok w1 h).mono ?_
    rw [aw_A, aw_B]
    rintro r w' ⟨va, vb, rfl, ⟨A1, c1, rfl, _⟩, ⟨A2, c2, rfl, _⟩, hg⟩
    exact ⟨A1, c1, A2, c2, rfl, hg⟩
  go_enter Try.func7, Try.ntmps7
  go_wp2_with (go_at_call 10; refine (cS.out _ _ ⟨some ⟨w.heap.size, 0, none⟩, 2, rfl, .inr ⟨w.heap.size, 0, rfl, ?_⟩, by decide, by decide⟩).mono ?_; rotate_left 1; (rintro r v1 ⟨A1, c1, A2, c2, rfl, hg⟩); rotate_left 1)
  · intro i x hx j u hu
    have hh := heap_alloc_last w (.cells #[.string ⟨#[97]⟩, .string { data := #[] }, .int .u32 0, .int .u32 0, .string ⟨#[98]⟩, .string { data := #[] }, .int .u32 0, .int .u32 0] 59)
    match i, hx with
    | 0, hx =>
      cases hx
      match j, hu with
      | 0, hu => cases hu; rw [cell_of_row _ _ _ _ _ _ hh]; rfl
      | 1, hu => cases hu; rw [cell_of_row _ _ _ _ _ _ hh]; rfl
      | 2, hu => cases hu; rw [cell_of_row _ _ _ _ _ _ hh]; rfl
      | 3, hu => cases hu; rw [cell_of_row _ _ _ _ _ _ hh]; rfl
    | 1, hx =>
      cases hx
      match j, hu with
      | 0, hu => cases hu; rw [cell_of_row _ _ _ _ _ _ hh]; rfl
      | 1, hu => cases hu; rw [cell_of_row _ _ _ _ _ _ hh]; rfl
      | 2, hu => cases hu; rw [cell_of_row _ _ _ _ _ _ hh]; rfl
      | 3, hu => cases hu; rw [cell_of_row _ _ _ _ _ _ hh]; rfl
  · go_ret
    exact ⟨rfl, by first | exact (((((Gr.refl w).alloc _).trans hg).alloc _).alloc _) | exact (((((Gr.refl w).alloc _).trans hg).alloc _).alloc _).drew | exact (((((Gr.refl w).alloc _).trans hg).alloc _).alloc _).drewN _ | exact ((((Gr.refl w).alloc _).trans hg).drew.alloc _).alloc _⟩
end Go.Proofs.Ytmpmfgkabjedpaa
namespace Go.Proofs.Ytmpmfgkabjedpaa
open Go.RowKit
set_option linter.unusedVariables false
set_option linter.unusedSimpArgs false
/-- the keys rise -/
def Rises {α : Type} (key : α → ByteArray) (xs : List α) : Prop := ∀ i a b, xs[i]? = some a → xs[i + 1]? = some b → SL (key a) (key b) = true
theorem SL_trans {a b c : ByteArray} (h1 : SL a b = true) (h2 : SL b c = true) : SL a c = true := by
  unfold SL at *
  rw [Go.Proofs.bytesLess_eq] at *
  simp only [decide_eq_true_eq] at *
  exact List.lt_trans h1 h2
theorem SL_irr (a : ByteArray) : SL a a = false := by
  unfold SL
  rw [Go.Proofs.bytesLess_eq]
  simp only [decide_eq_false_iff_not]
  exact List.lt_irrefl _
theorem Rises.lt {α : Type} {key : α → ByteArray} {xs : List α} (h : Rises key xs) : ∀ (d i : Nat) (a b : α), xs[i]? = some a → xs[i + d + 1]? = some b → SL (key a) (key b) = true := by
  intro d
  induction d with
  | zero => intro i a b ha hb; exact h i a b ha hb
  | succ d ih =>
    intro i a b ha hb
    have hlt : i + d + 1 < xs.length := by
      have := (List.getElem?_eq_some_iff.1 hb).1; omega
    have hc := List.getElem?_eq_getElem hlt
    exact SL_trans (ih i a _ ha hc) (h (i + d + 1) _ b hc (by rw [← hb]; congr 1))
theorem Rises.lt' {α : Type} {key : α → ByteArray} {xs : List α} (h : Rises key xs) {i j : Nat} {a b : α} (hij : i < j) (ha : xs[i]? = some a) (hb : xs[j]? = some b) : SL (key a) (key b) = true :=
  h.lt (j - i - 1) i a b ha (by rw [show i + (j - i - 1) + 1 = j by omega]; exact hb)
theorem Rises.mono {α : Type} {key : α → ByteArray} {xs : List α} (h : Rises key xs) (k : ByteArray) (a b : Nat) (x y : α) (hab : a ≤ b) (hx : xs[a]? = some x) (hy : xs[b]? = some y) (hs : Op.bytesLess (key x).toList k.toList = false) : Op.bytesLess (key y).toList k.toList = false := by
  rcases Nat.lt_or_eq_of_le hab with hlt | rfl
  · cases hc : Op.bytesLess (key y).toList k.toList with
    | false => rfl
    | true =>
      have h1 := SL_trans (h.lt' hlt hx hy) hc
      unfold SL at h1
      rw [hs] at h1; cases h1
  · rw [hx] at hy; cases hy; exact hs
theorem Rises.at {α : Type} {key : α → ByteArray} {xs : List α} (h : Rises key xs) (k : ByteArray) (i : Nat) (x : α) (hx : xs[i]? = some x) : decide (i < fdAt key xs k) = Op.bytesLess (key x).toList k.toList := by
  have hlt := (List.getElem?_eq_some_iff.1 hx).1
  cases hb : Op.bytesLess (key x).toList k.toList with
  | true =>
    rw [decide_eq_true_eq]
    rcases Nat.lt_or_ge i (fdAt key xs k) with h1 | h1
    · exact h1
    · have hd : fdAt key xs k < xs.length := by omega
      have hp : (!Op.bytesLess (key xs[fdAt key xs k]).toList k.toList) = true := List.findIdx_getElem (w := hd)
      have h2 := h.mono k _ _ _ _ h1 (List.getElem?_eq_getElem hd) hx (by simpa using hp)
      rw [h2] at hb; cases hb
  | false =>
    rw [decide_eq_false_iff_not]
    intro h1
    have := List.not_of_lt_findIdx h1
    rw [(List.getElem?_eq_some_iff.1 hx).2] at this
    simp [hb] at this
theorem Rises.is {α : Type} {key : α → ByteArray} {xs : List α} (h : Rises key xs) (k : ByteArray) (i : Nat) (x : α) (hx : xs[i]? = some x) : (decide (i = fdAt key xs k) && fdIs key xs k) = ((key x).toList == k.toList) := by
  by_cases he : i = fdAt key xs k
  · unfold fdIs
    rw [← he, hx]
    simp
  · have h1 := h.at k i x hx
    rw [decide_eq_false he, Bool.false_and]
    symm
    rw [beq_eq_false_iff_ne]
    intro hk
    have hn : Op.bytesLess (key x).toList k.toList = false := by
      rw [hk]; have := SL_irr k; exact this
    rw [hn, decide_eq_false_iff_not] at h1
    have hlt := (List.getElem?_eq_some_iff.1 hx).1
    have hd : fdAt key xs k < xs.length := by omega
    have h2 := h.lt' (show fdAt key xs k < i by omega) (List.getElem?_eq_getElem hd) hx
    have hp : (!Op.bytesLess (key xs[fdAt key xs k]).toList k.toList) = true := List.findIdx_getElem (w := hd)
    unfold SL at h2
    rw [hk] at h2
    have : Op.bytesLess (key xs[fdAt key xs k]).toList k.toList = false := by simpa using hp
    rw [this] at h2; cases h2
end Go.Proofs.Ytmpmfgkabjedpaa
