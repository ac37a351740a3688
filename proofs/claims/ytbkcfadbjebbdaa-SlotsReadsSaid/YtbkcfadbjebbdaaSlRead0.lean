/- Layer 6: two readers side by side, a shape ahead of them, and what was read so far. -/
import Derived.Test.YtbkcfadbjebbdaaSlLay
import Derived.Test.YtbkcfadbjebbdaaSlGet
import Derived.Test.YtbkcfadbjebbdaaSlLaw0
import Derived.Test.YtbkcfadbjebbdaaOctWr
namespace Go.Proofs.Ytbkcfadbjebbdaa
open Go.RowKit
set_option linter.unusedVariables false
set_option linter.unusedSimpArgs false
structure Rq {α : Type} (e nn : Nat) (enc : α → List Value) (w wr : World) (g b1 b2 : Nat) (O : Obj) (A : Option Addr) (cap : Nat) (l : List α) (S1 : ByteArray) (e1 : Int) (S2 : ByteArray) (e2 : Int) : Prop where
  gr : Gr w wr
  row : wr.heap[g]? = some O
  r1 : RdAt wr b1 S1 e1
  r2 : RdAt wr b2 S2 e2
  own : Own wr (b2 + 1) e nn enc A cap l
  lo : w.heap.size ≤ g ∧ g < b1 ∧ b1 < b2
section
variable {α : Type} {e nn : Nat} {enc : α → List Value} {w wr w' : World} {g b1 b2 : Nat} {O : Obj} {A : Option Addr} {cap : Nat} {l : List α} {S1 : ByteArray} {e1 : Int} {S2 : ByteArray} {e2 : Int}
theorem Rq.sep (h : Rq e nn enc w wr g b1 b2 O A cap l S1 e1 S2 e2) : ownOf A ≠ some b1 ∧ ownOf A ≠ some b2 ∧ ownOf A ≠ some g := by
  have hl := h.lo
  refine ⟨fun he => ?_, fun he => ?_, fun he => ?_⟩
  all_goals have := (h.own.lt he).2; omega
theorem Rq.gr' (h : Rq e nn enc w wr g b1 b2 O A cap l S1 e1 S2 e2) (hg : Gr wr w') : Rq e nn enc w w' g b1 b2 O A cap l S1 e1 S2 e2 :=
  ⟨h.gr.trans hg, (hg.block (lt_of_row h.row)).trans h.row, h.r1.gr hg, h.r2.gr hg, h.own.gr hg, h.lo⟩
theorem Rq.ch1 {S1' : ByteArray} {e1' : Int} (h : Rq e nn enc w wr g b1 b2 O A cap l S1 e1 S2 e2) (hc : Ch b1 wr w') (hr : RdAt w' b1 S1' e1') : Rq e nn enc w w' g b1 b2 O A cap l S1' e1' S2 e2 := by
  have hl := h.lo
  exact ⟨hc.gr h.gr (by omega), (hc.block g (lt_of_row h.row) (by omega)).trans h.row, hr, h.r2.ch hc (by omega), h.own.ch hc h.sep.1, h.lo⟩
theorem Rq.ch2 {S2' : ByteArray} {e2' : Int} (h : Rq e nn enc w wr g b1 b2 O A cap l S1 e1 S2 e2) (hc : Ch b2 wr w') (hr : RdAt w' b2 S2' e2') : Rq e nn enc w w' g b1 b2 O A cap l S1 e1 S2' e2' := by
  have hl := h.lo
  exact ⟨hc.gr h.gr (by omega), (hc.block g (lt_of_row h.row) (by omega)).trans h.row, h.r1.ch hc (by omega), hr, h.own.ch hc h.sep.2.1, h.lo⟩
theorem Rq.push {A' : Option Addr} {cap' n : Nat} {l' : List α} (h : Rq e nn enc w wr g b1 b2 O A cap l S1 e1 S2 e2) (hg : wr.grownBy w' (Value.slice A n cap).ownBlock) (ho : Own w' (b2 + 1) e nn enc A' cap' l') : Rq e nn enc w w' g b1 b2 O A' cap' l' S1 e1 S2 e2 := by
  have hl := h.lo
  have h1 := h.r1.lt
  have h2 := h.r2.lt
  have hs := h.sep
  rw [ownOf_eq] at hg
  have hb : ∀ j, j < wr.heap.size → ownOf A ≠ some j → w'.heap[j]? = wr.heap[j]? := fun j hj hne => hg.block j hj (fun he => hne he.symm)
  refine ⟨⟨hg.os.trans (Below.os h.gr), hg.tape.trans (Below.tape h.gr), hg.output.trans (Below.output h.gr), Nat.le_trans (Below.size h.gr) hg.size, fun j hj => ?_⟩, ?_, ?_, ?_, ho, h.lo⟩
  · rw [hb j (Nat.lt_of_lt_of_le hj (Below.size h.gr)) (fun he => by have := (h.own.lt he).2; omega)]
    exact Below.block h.gr j hj
  · exact (hb g (lt_of_row h.row) hs.2.2).trans h.row
  · exact h.r1.of_block (hb b1 h1 hs.1)
  · exact h.r2.of_block (hb b2 h2 hs.2.1)
end
theorem rdNum_two (l : List UInt8) (h : 2 ≤ l.length) : rdNum (B l) 0 2 = (Oct.num (l.take 2), B (l.drop 2), 0) := by
  have := rdTake_ahead' (l.take 2) (l.drop 2) 2 (by rw [List.length_take]; omega)
  rw [List.take_append_drop] at this
  unfold rdNum
  rw [this]
  rfl
theorem slot_at (D : List UInt8) (n k : Nat) (hk : k < n) (hn : 2 * n ≤ D.length) : rdNum (B ((D.take (2 * n)).drop (2 * k))) 0 2 = (Oct.num ((D.drop (2 * k)).take 2), B ((D.take (2 * n)).drop (2 * (k + 1))), 0) := by
  rw [rdNum_two _ (by rw [List.length_drop, List.length_take]; omega), List.drop_drop, List.drop_take, List.take_take]
  rw [Nat.min_eq_left (by omega), show 2 * k + 2 = 2 * (k + 1) by omega]
theorem ceCan_lt {x : Ce} (h : ceCan x) : ceU x := by
  obtain ⟨k, v, c, l⟩ := x
  obtain ⟨_, h⟩ := h
  simp only at h
  by_cases hc : c = 0
  · rw [if_pos hc] at h; exact ⟨by simp only; omega, by simp only; omega⟩
  · rw [if_neg hc] at h; exact ⟨h.2.1, h.2.2⟩
end Go.Proofs.Ytbkcfadbjebbdaa
