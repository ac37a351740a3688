/- Layer 6: the document's reader, a cell that is filled, and what was read so far; which cells a body is, without its slots. -/
import Derived.Test.YtbkcfadbjebbdaaSlRead0
import Derived.Test.YtbkcfadbjebbdaaSlLaw1
namespace Go.Proofs.Ytbkcfadbjebbdaa
open Go.RowKit
set_option linter.unusedVariables false
set_option linter.unusedSimpArgs false
structure Rf {α : Type} (e nn : Nat) (enc : α → List Value) (w wr : World) (b : Nat) (A : Option Addr) (cap : Nat) (l : List α) (S : ByteArray) (er : Int) : Prop where
  gr : Gr w wr
  r : RdAt wr b S er
  own : Own wr (b + 1) e nn enc A cap l
  lo : w.heap.size ≤ b
structure Rc {α : Type} (e nn : Nat) (enc : α → List Value) (w wr : World) (b cc : Nat) (T : TypeId) (cs : Array Value) (A : Option Addr) (cap : Nat) (l : List α) (S : ByteArray) (er : Int) : Prop where
  f : Rf e nn enc w wr b A cap l S er
  row : wr.heap[cc]? = some (.cells cs T (0, 0))
  hb : b < cc
  hA : ownOf A ≠ some cc
section
variable {α : Type} {e nn : Nat} {enc : α → List Value} {w wr w' : World} {b cc : Nat} {T : TypeId} {cs : Array Value} {A : Option Addr} {cap : Nat} {l : List α} {S : ByteArray} {er : Int}
theorem Rf.sep (h : Rf e nn enc w wr b A cap l S er) : ownOf A ≠ some b := by
  intro he
  have := (h.own.lt he).2
  omega
theorem Rf.gr' (h : Rf e nn enc w wr b A cap l S er) (hg : Gr wr w') : Rf e nn enc w w' b A cap l S er :=
  ⟨h.gr.trans hg, h.r.gr hg, h.own.gr hg, h.lo⟩
theorem Rf.ch {S' : ByteArray} {er' : Int} (h : Rf e nn enc w wr b A cap l S er) (hc : Ch b wr w') (hr : RdAt w' b S' er') : Rf e nn enc w w' b A cap l S' er' :=
  ⟨hc.gr h.gr h.lo, hr, h.own.ch hc h.sep, h.lo⟩
theorem Rf.push {A' : Option Addr} {cap' n : Nat} {l' : List α} (h : Rf e nn enc w wr b A cap l S er) (hg : wr.grownBy w' (Value.slice A n cap).ownBlock) (ho : Own w' (b + 1) e nn enc A' cap' l') : Rf e nn enc w w' b A' cap' l' S er := by
  have hl := h.lo
  have h1 := h.r.lt
  have hs := h.sep
  rw [ownOf_eq] at hg
  have hb : ∀ j, j < wr.heap.size → ownOf A ≠ some j → w'.heap[j]? = wr.heap[j]? := fun j hj hne => hg.block j hj (fun he => hne he.symm)
  refine ⟨⟨hg.os.trans (Below.os h.gr), hg.tape.trans (Below.tape h.gr), hg.output.trans (Below.output h.gr), Nat.le_trans (Below.size h.gr) hg.size, fun j hj => ?_⟩, ?_, ho, h.lo⟩
  · rw [hb j (Nat.lt_of_lt_of_le hj (Below.size h.gr)) (fun he => by have := (h.own.lt he).2; omega)]
    exact Below.block h.gr j hj
  · exact h.r.of_block (hb b h1 hs)
theorem Rc.start (h : Rf e nn enc w wr b A cap l S er) (T : TypeId) (cs : Array Value) : Rc e nn enc w (wr.alloc (.cells cs T)) b wr.heap.size T cs A cap l S er :=
  ⟨h.gr' ((Gr.refl wr).alloc _), heap_alloc_last wr _, h.r.lt, fun he => by have := (h.own.lt he).1; omega⟩
theorem Rc.gr' (h : Rc e nn enc w wr b cc T cs A cap l S er) (hg : Gr wr w') : Rc e nn enc w w' b cc T cs A cap l S er :=
  ⟨h.f.gr' hg, (hg.block (lt_of_row h.row)).trans h.row, h.hb, h.hA⟩
theorem Rc.ch {S' : ByteArray} {er' : Int} (h : Rc e nn enc w wr b cc T cs A cap l S er) (hc : Ch b wr w') (hr : RdAt w' b S' er') : Rc e nn enc w w' b cc T cs A cap l S' er' :=
  ⟨h.f.ch hc hr, (hc.block cc (lt_of_row h.row) (by have := h.hb; omega)).trans h.row, h.hb, h.hA⟩
theorem Rc.set (h : Rc e nn enc w wr b cc T cs A cap l S er) (i : Nat) (v : Value) : Rc e nn enc w (wr.setCell ⟨cc, i, none⟩ v) b cc T (cs.setIfInBounds i v) A cap l S er := by
  have hb := h.hb
  refine ⟨⟨?_, h.f.r.of_block (Below.heap_setCell _ _ _ _ (by show b ≠ cc; omega)), h.f.own.of_block fun g hg => Below.heap_setCell _ _ _ _ (fun hh => h.hA (by rw [hg, hh])), h.f.lo⟩, heap_setCell_same _ _ i _ _ _ h.row, h.hb, h.hA⟩
  exact h.f.gr.setCell (p := ⟨cc, i, none⟩) (by have := h.f.lo; show w.heap.size ≤ cc; omega) v
theorem Own.map {β : Type} {f : α → β} {encb : β → List Value} {base : Nat} (h : Own w base e nn (fun x => encb (f x)) A cap l) : Own w base e nn encb A cap (l.map f) := by
  unfold Own at *
  rw [List.length_map, List.flatMap_map]
  exact h
/-- the first k cells are l; t is ahead (whatever the slots say) -/
def Mir (byt : α → ByteArray) (can : α → Prop) (D : List UInt8) (count k : Nat) (l : List α) (t : List UInt8) : Prop :=
  l.length = k ∧ (∀ x ∈ l, can x) ∧ D.drop (2 * count) = slCells (l.map byt) ++ t
variable {get : ByteArray → Int → α × ByteArray × Int} {byt : α → ByteArray} {can : α → Prop}
theorem Mir.start (D : List UInt8) (count : Nat) : Mir byt can D count 0 [] (D.drop (2 * count)) := ⟨rfl, fun x hx => by simp at hx, by simp [slCells]⟩
theorem Mir.split (h : Rdg get byt can) {D : List UInt8} {count k : Nat} {l L : List α} {t : List UInt8} (hm : Mir byt can D count k l t) (hL : Lay byt can D count L) (hk : k ≤ count) : L.take k = l ∧ slCells ((L.drop k).map byt) = t := by
  have := h.pre l L t hm.2.1 hL.2.1 (by rw [hm.1, hL.1]; exact hk) (by rw [← hL.drop, hm.2.2])
  rwa [hm.1] at this
theorem Mir.bad (h : Rdg get byt can) {D : List UInt8} {count k : Nat} {l L : List α} {t : List UInt8} (hm : Mir byt can D count k l t) (hL : Lay byt can D count L) (hk : k < count) : (get (B t) 0).2.2 = 0 := by
  obtain ⟨h1, h2⟩ := hm.split h hL (Nat.le_of_lt hk)
  have hlt : k < L.length := by rw [hL.1]; exact hk
  rw [List.drop_eq_getElem_cons hlt, List.map_cons, slCells_cons] at h2
  rw [← h2, h.ahead _ (hL.2.1 _ (List.getElem_mem hlt))]
theorem Mir.push (h : Rdg get byt can) {D : List UInt8} {count k : Nat} {l : List α} {t : List UInt8} (hm : Mir byt can D count k l t)
    {x : α} {t' : ByteArray} (hg : get (B t) 0 = (x, t', 0)) : Mir byt can D count (k + 1) (l ++ [x]) t'.data.toList := by
  obtain ⟨hc, he⟩ := h.back _ _ _ hg
  have he2 : t = (byt x).data.toList ++ t'.data.toList := by
    have := congrArg (fun b : ByteArray => b.data.toList) he
    simpa [B] using this
  refine ⟨by rw [List.length_append, hm.1]; rfl, fun y hy => ?_, ?_⟩
  · rcases List.mem_append.1 hy with hy | hy
    · exact hm.2.1 y hy
    · simp only [List.mem_singleton] at hy; subst hy; exact hc
  · rw [hm.2.2, he2, List.map_append, slCells_append]
    simp [slCells]
theorem Mir.same (h : Rdg get byt can) {D : List UInt8} {count : Nat} {l L : List α} {t : List UInt8} (hm : Mir byt can D count count l t) (hL : Lay byt can D count L) : L = l := by
  obtain ⟨h1, h2⟩ := hm.split h hL (Nat.le_refl _)
  rwa [List.take_of_length_le (by rw [hL.1]; exact Nat.le_refl _)] at h1
end
end Go.Proofs.Ytbkcfadbjebbdaa
