/- A slice that the call owns, as a list: what is appended to it, what is read of it. -/
import Derived.Test.YtdpildbdbbfamaaDoorSlices
import Derived.Test.YtdpildbdbbfamaaDoorOctRd
import Derived.Deep.AppendLies
import Derived.Laws.AppendOwn
import Derived.Laws.ResultCell
namespace Go.Proofs.YtdpildbdbbfamaaDoor
open Go.RowKit
set_option linter.unusedVariables false
set_option linter.unusedSimpArgs false
/-- the call's own slice v holds the things xs, k cells each -/
def Own {α : Type} (w : World) (base e k : Nat) (enc : α → List Value) (A : Option Addr) (cap : Nat) (xs : List α) : Prop :=
  w.ownsRow base e k (.slice A xs.length cap) xs.length (xs.flatMap enc)
def ownOf (A : Option Addr) : Option Nat := A.map (·.block)
theorem ownOf_eq (A : Option Addr) (n c : Nat) : (Value.slice A n c).ownBlock = ownOf A := by cases A <;> rfl
section
variable {α : Type} {w w' : World} {base e k : Nat} {enc : α → List Value} {A : Option Addr} {cap : Nat} {xs : List α}
theorem Own.nil (w : World) (base e k : Nat) (enc : α → List Value) : Own w base e k enc none 0 ([] : List α) := ⟨by simp, .inl ⟨rfl, rfl⟩⟩
theorem Own.of_block (h : Own w base e k enc A cap xs) (hb : ∀ g, ownOf A = some g → w'.heap[g]? = w.heap[g]?) : Own w' base e k enc A cap xs := by
  obtain ⟨h1, h2⟩ := h
  refine ⟨h1, ?_⟩
  rcases h2 with h2 | ⟨g, c, cur, hv, hg, hh, hx⟩
  · exact .inl h2
  · simp only [Value.slice.injEq] at hv
    obtain ⟨rfl, _, rfl⟩ := hv
    exact .inr ⟨g, _, cur, rfl, hg, (hb g rfl).trans hh, hx⟩
theorem Own.lt (h : Own w base e k enc A cap xs) {g : Nat} (hg : ownOf A = some g) : g < w.heap.size ∧ base ≤ g := by
  rcases h.2 with h2 | ⟨g', c, cur, hv, hb, hh, hx⟩
  · simp only [Value.slice.injEq] at h2
    obtain ⟨⟨rfl, _⟩, _⟩ := h2
    cases hg
  · simp only [Value.slice.injEq] at hv
    obtain ⟨rfl, _, rfl⟩ := hv
    cases hg
    refine ⟨?_, hb⟩
    rcases Nat.lt_or_ge g' w.heap.size with hlt | hge
    · exact hlt
    · rw [Array.getElem?_eq_none hge] at hh; cases hh
theorem Own.gr (h : Own w base e k enc A cap xs) (hg : Gr w w') : Own w' base e k enc A cap xs :=
  h.of_block fun g he => hg.block (h.lt he).1
theorem Own.ch {b : Nat} (h : Own w base e k enc A cap xs) (hg : Ch b w w') (hne : ownOf A ≠ some b) : Own w' base e k enc A cap xs :=
  h.of_block fun g he => hg.block g (h.lt he).1 (fun hb => hne (by rw [he, hb]))
theorem Own.cap_le (h : Own w base e k enc A cap xs) : xs.length ≤ cap ∧ cap ≤ maxLen := by
  rcases h.2 with h2 | ⟨g', c, cur, hv, hb, hh, hn, hc, hx⟩
  · simp only [Value.slice.injEq] at h2
    obtain ⟨⟨_, _, rfl⟩, h0⟩ := h2
    exact ⟨by omega, by decide⟩
  · simp only [Value.slice.injEq] at hv
    obtain ⟨_, _, rfl⟩ := hv
    exact ⟨hn, hc⟩
theorem flatMap_get {enc : α → List Value} (k : Nat) (hk : ∀ x, (enc x).length = k) (xs : List α) (i : Nat) (x : α) (hx : xs[i]? = some x) (j : Nat) (u : Value) (hu : (enc x)[j]? = some u) : (xs.flatMap enc)[i * k + j]? = some u := by
  induction xs generalizing i with
  | nil => simp at hx
  | cons y ys ih =>
    rw [List.flatMap_cons]
    cases i with
    | zero =>
      simp only [List.getElem?_cons_zero, Option.some.injEq] at hx
      subst hx
      have hj : j < (enc y).length := by
        rcases Nat.lt_or_ge j (enc y).length with h | h
        · exact h
        · rw [List.getElem?_eq_none h] at hu; cases hu
      rw [Nat.zero_mul, Nat.zero_add, List.getElem?_append_left hj]; exact hu
    | succ i =>
      simp only [List.getElem?_cons_succ] at hx
      rw [Nat.succ_mul, List.getElem?_append_right (by rw [hk]; omega), hk]
      rw [show i * k + k + j - k = i * k + j by omega]
      exact ih i hx
theorem Own.slice (h : Own w base e k enc A cap xs) (hk : ∀ x, (enc x).length = k) : SliceAt w A k enc xs := by
  obtain ⟨h1, h2⟩ := h
  rcases h2 with ⟨h2, h0⟩ | ⟨g', c, cur, hv, hb, hh, hn, hc, hsz, hx⟩
  · exact .inl (List.eq_nil_of_length_eq_zero h0)
  · simp only [Value.slice.injEq] at hv
    obtain ⟨rfl, _, rfl⟩ := hv
    refine .inr ⟨g', 0, rfl, fun i x hxi j u hu => ?_⟩
    have hc := flatMap_get k hk xs i x hxi j u hu
    rw [← hx] at hc
    rw [List.getElem?_take] at hc
    split at hc
    · rw [Nat.zero_add, cell_of_row _ _ _ _ _ _ hh]
      simpa using hc
    · cases hc
theorem Own.push {g c : Nat} (x : α) (h : w'.ownsRow base e k (.slice (some ⟨g, 0, none⟩) (xs.length + 1) c) (xs.length + 1) (xs.flatMap enc ++ enc x)) : Own w' base e k enc (some ⟨g, 0, none⟩) c (xs ++ [x]) := by
  unfold Own
  rw [List.length_append, List.length_singleton, List.flatMap_append]
  simpa using h
end
theorem Ch.setFar {b g : Nat} {w w' : World} (h : Ch b w w') (hg : w.heap.size ≤ g) (i : Nat) (u : Value) : Ch b w (w'.setCell ⟨g, i, none⟩ u) :=
  ⟨h.os, h.tape, h.output, by have := h.size; simpa [World.setCell] using this, fun k hk hb => (Below.heap_setCell _ _ _ _ (by show k ≠ g; omega)).trans (h.block k hk hb)⟩
theorem setCell_size (w : World) (p : Addr) (u : Value) : (w.setCell p u).heap.size = w.heap.size := by simp [World.setCell]
theorem alloc_size (w : World) (o : Obj) : (w.alloc o).heap.size = w.heap.size + 1 := by show (w.heap.push _).size = _; simp
theorem heap_alloc3 (w : World) (a b c : Obj) : (((w.alloc a).alloc b).alloc c).heap[w.heap.size]? = some a ∧ (((w.alloc a).alloc b).alloc c).heap[w.heap.size + 1]? = some b ∧ (((w.alloc a).alloc b).alloc c).heap[w.heap.size + 2]? = some c := by
  refine ⟨?_, ?_, ?_⟩
  · rw [((Gr.refl _).alloc c |>.block (k := w.heap.size) (by rw [alloc_size, alloc_size]; omega)), ((Gr.refl _).alloc b |>.block (k := w.heap.size) (by rw [alloc_size]; omega)), heap_alloc_last]
  · have h := heap_alloc_last (w.alloc a) b
    rw [alloc_size] at h
    rw [((Gr.refl _).alloc c |>.block (k := w.heap.size + 1) (by rw [alloc_size, alloc_size]; omega)), h]
  · have h := heap_alloc_last ((w.alloc a).alloc b) c
    rw [alloc_size, alloc_size] at h
    exact h
theorem results_cell_tmp_row {P : Program} {fn : Func} {p u : Tmp} {ty : TypeId} (h : fn.results = #[.cell p ty, .tmp u]) (tmps : Array Value) (w : World) (g : Nat) (t : TypeId) (cs : Array Value) (fr : Nat × Nat) (d : TypeDesc)
    (hp : tmps.getD p undef = .pointer (some ⟨g, 0, none⟩)) (hg : w.heap[g]? = some (.cells cs t fr))
    (hu : P.underlying ty = some d) (hd : (match d with | .struct _ | .array _ _ => true | _ => false) = true) (hi : (P.info? ty).map (·.size) = some cs.size) :
    (results fn tmps).run P w = .ok (.tuple #[.agg cs, tmps.getD u undef]) w := by
  rw [results_cell_tmp h, hp]
  simp [asAddr, Result.andThen, run_loadVar_row w g t ty cs fr d hg hu hd hi]
/-- a block of two cells -/
structure At2 (w : World) (b : Nat) (u v : Value) : Prop where
  s : w.cell? ⟨b, 0, none⟩ = some u
  e : w.cell? ⟨b, 1, none⟩ = some v
  sf : w.frozen? ⟨b, 0, none⟩ = false
  ef : w.frozen? ⟨b, 1, none⟩ = false
theorem At2.of_row {w : World} {g : Nat} {u v : Value} {t : TypeId} (h : w.heap[g]? = some (.cells #[u, v] t (0, 0))) : At2 w g u v :=
  ⟨by rw [cell_of_row _ _ 0 _ _ _ h]; rfl, by rw [cell_of_row _ _ 1 _ _ _ h]; rfl, frozen_of_row _ _ 0 _ _ h, frozen_of_row _ _ 1 _ _ h⟩
theorem At2.lt {w : World} {b : Nat} {u v : Value} (h : At2 w b u v) : b < w.heap.size := block_lt_of_cell h.s
theorem At2.gr {w w' : World} {b : Nat} {u v : Value} (h : At2 w b u v) (hg : Gr w w') : At2 w' b u v :=
  ⟨hg.cells h.s, hg.cells h.e, (hg.frozen h.lt).trans h.sf, (hg.frozen h.lt).trans h.ef⟩
theorem At2.ch {w w' : World} {b c : Nat} {u v : Value} (h : At2 w b u v) (hg : Ch c w w') (hne : b ≠ c) : At2 w' b u v :=
  ⟨hg.cell hne h.s, hg.cell hne h.e, (hg.frozen hne h.lt).trans h.sf, (hg.frozen hne h.lt).trans h.ef⟩
theorem At2.new (w : World) (t : TypeId) (u v : Value) : At2 (w.alloc (.cells #[u, v] t)) w.heap.size u v := by
  have h := heap_alloc_last w (.cells #[u, v] t)
  exact ⟨by rw [cell_of_row _ _ 0 _ _ _ h]; rfl, by rw [cell_of_row _ _ 1 _ _ _ h]; rfl, frozen_of_row _ _ 0 _ _ h, frozen_of_row _ _ 1 _ _ h⟩
end Go.Proofs.YtdpildbdbbfamaaDoor
