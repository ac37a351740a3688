/- Layer 6: a body's bytes; two builders in turn. -/
import Derived.Test.YtmpmfgkabjedpaaBd3
import Derived.Test.YtmpmfgkabjedpaaSl4
namespace Go.Proofs.Ytmpmfgkabjedpaa
open Go.RowKit
set_option linter.unusedVariables false
set_option linter.unusedSimpArgs false
/-- where each cell begins, two bytes each -/
def slAt (n : Nat) : List ByteArray → Nat → List UInt8
  | [], _ => []
  | b :: bs, o => Oct.be (2 * n + o) 2 ++ slAt n bs (o + b.size)
def slCells (bs : List ByteArray) : List UInt8 := bs.flatMap (·.data.toList)
def slLen (bs : List ByteArray) : Nat := (bs.map fun b => 2 + b.size).sum
def slBody (er : Int) (bs : List ByteArray) : ByteArray × Int :=
  if er ≠ 0 then (.empty, er) else if 4072 < slLen bs then (.empty, 14) else (⟨(slAt bs.length bs 0 ++ slCells bs).toArray⟩, 0)
theorem slCells_snoc (bs : List ByteArray) (b : ByteArray) : slCells (bs ++ [b]) = slCells bs ++ b.data.toList := by simp [slCells]
theorem slCells_cons (bs : List ByteArray) (b : ByteArray) : slCells (b :: bs) = b.data.toList ++ slCells bs := by simp [slCells]
theorem slAt_snoc (n : Nat) (b : ByteArray) : ∀ (bs : List ByteArray) (o : Nat), slAt n (bs ++ [b]) o = slAt n bs o ++ Oct.be (2 * n + (o + (slCells bs).length)) 2
  | [], o => by simp [slAt, slCells]
  | c :: bs, o => by
    show Oct.be (2 * n + o) 2 ++ slAt n (bs ++ [b]) (o + c.size) = _ ++ slAt n bs (o + c.size) ++ _
    rw [slAt_snoc n b bs (o + c.size), slCells_cons, List.length_append, List.append_assoc]
    have : c.data.toList.length = c.size := by simp
    rw [this, Nat.add_assoc]
theorem slAt_length (n : Nat) : ∀ (bs : List ByteArray) (o : Nat), (slAt n bs o).length = 2 * bs.length
  | [], _ => rfl
  | c :: bs, o => by
    show (Oct.be (2 * n + o) 2 ++ slAt n bs (o + c.size)).length = _
    rw [List.length_append, Oct.be_length, slAt_length n bs, List.length_cons]; omega
theorem slCells_len (bs : List ByteArray) : (slCells bs).length + 2 * bs.length = slLen bs := by
  induction bs with
  | nil => rfl
  | cons b bs ih =>
    have h : slLen (b :: bs) = 2 + b.size + slLen bs := by simp [slLen]
    have : b.data.toList.length = b.size := by simp
    rw [slCells_cons, List.length_append, List.length_cons, h, this]; omega
theorem slCells_take (bs : List ByteArray) (k : Nat) : (slCells (bs.take k)).length ≤ (slCells bs).length := by
  have h : slCells bs = slCells (bs.take k) ++ slCells (bs.drop k) := by
    unfold slCells; rw [← List.flatMap_append, List.take_append_drop]
  rw [h, List.length_append]; omega
theorem Kp.row {b : Nat} {G : Option Nat} {w w' : World} (h : Kp b G w w') {k : Nat} {o : Obj} (hk : w.heap[k]? = some o) (hb : k ≠ b) (hG : ∀ g, G = some g → g ≠ k) : w'.heap[k]? = some o := by
  rw [h.block k (by rcases Nat.lt_or_ge k w.heap.size with h2 | h2; exact h2; rw [Array.getElem?_eq_none h2] at hk; cases hk) hb (fun e => hG k e.symm rfl)]
  exact hk
/-- two builders side by side, and a row ahead of both -/
structure Pr (w wr : World) (g b1 b2 : Nat) (O : Obj) (G1 G2 : Option Nat) (la lc : List UInt8) : Prop where
  gr : Gr w wr
  row : wr.heap[g]? = some O
  d1 : Bd wr b1 G1 la
  d2 : Bd wr b2 G2 lc
  b12 : b1 ≠ b2
  h1 : G1 ≠ some b2
  h2 : G2 ≠ some b1
  h3 : ∀ x, G1 = some x → G2 ≠ some x
  lo : w.heap.size ≤ g ∧ g < b1 ∧ g < b2
theorem Pr.gr' {w wr w' : World} {g b1 b2 : Nat} {O : Obj} {G1 G2 : Option Nat} {la lc : List UInt8} (h : Pr w wr g b1 b2 O G1 G2 la lc) (hg : Gr wr w') : Pr w w' g b1 b2 O G1 G2 la lc :=
  ⟨h.gr.trans hg, (hg.block (by have := h.d1.blk.1; have := h.lo; omega)).trans h.row, h.d1.gr hg, h.d2.gr hg, h.b12, h.h1, h.h2, h.h3, h.lo⟩
theorem Pr.put1 {w wr w' : World} {g b1 b2 : Nat} {O : Obj} {G1 G2 G : Option Nat} {la lc l : List UInt8} (h : Pr w wr g b1 b2 O G1 G2 la lc) (hB : Bd w' b1 G l) (hK : Kp b1 G1 wr w') (hG : G = G1 ∨ ∀ x, G = some x → wr.heap.size ≤ x) : Pr w w' g b1 b2 O G G2 l lc := by
  have k1 := h.d1.blk
  have k2 := h.d2.blk
  have hlo := h.lo
  refine ⟨hK.gr h.gr (by omega) (fun x hx => by have := k1.2 x hx; omega), hK.row h.row (by omega) (fun x hx => by have := k1.2 x hx; omega), hB, h.d2.kept ?_ ?_, h.b12, ?_, h.h2, ?_, h.lo⟩
  · exact hK.block b2 k2.1 (fun e => h.b12 e.symm) (fun e => h.h1 e.symm)
  · intro x hx
    exact hK.block x (k2.2 x hx).2 (fun e => h.h2 (by rw [hx, e])) (fun e => h.h3 x e.symm hx)
  · rcases hG with rfl | hG
    · exact h.h1
    · intro e; have := hG _ e; omega
  · intro x hx he
    rcases hG with rfl | hG
    · exact h.h3 x hx he
    · have := hG _ hx; have := (k2.2 x he).2; omega
theorem Pr.swap {w wr : World} {g b1 b2 : Nat} {O : Obj} {G1 G2 : Option Nat} {la lc : List UInt8} (h : Pr w wr g b1 b2 O G1 G2 la lc) : Pr w wr g b2 b1 O G2 G1 lc la :=
  ⟨h.gr, h.row, h.d2, h.d1, fun e => h.b12 e.symm, h.h2, h.h1, fun x hx he => h.h3 x he hx, h.lo.1, h.lo.2.2, h.lo.2.1⟩
theorem Pr.put2 {w wr w' : World} {g b1 b2 : Nat} {O : Obj} {G1 G2 G : Option Nat} {la lc l : List UInt8} (h : Pr w wr g b1 b2 O G1 G2 la lc) (hB : Bd w' b2 G l) (hK : Kp b2 G2 wr w') (hG : G = G2 ∨ ∀ x, G = some x → wr.heap.size ≤ x) : Pr w w' g b1 b2 O G1 G la l :=
  (h.swap.put1 hB hK hG).swap
theorem Pr.told1 {w wr w' : World} {g b1 b2 : Nat} {O : Obj} {G1 G2 : Option Nat} {la lc : List UInt8} (h : Pr w wr g b1 b2 O G1 G2 la lc) (hK : Kp b1 G1 wr w') : Gr w w' ∧ Bd w' b2 G2 lc := by
  have k1 := h.d1.blk
  have k2 := h.d2.blk
  have hlo := h.lo
  refine ⟨hK.gr h.gr (by omega) (fun x hx => by have := k1.2 x hx; omega), h.d2.kept ?_ ?_⟩
  · exact hK.block b2 k2.1 (fun e => h.b12 e.symm) (fun e => h.h1 e.symm)
  · intro x hx
    exact hK.block x (k2.2 x hx).2 (fun e => h.h2 (by rw [hx, e])) (fun e => h.h3 x e.symm hx)
theorem Pr.xrow1 {w wr w' : World} {g b1 b2 k : Nat} {O o : Obj} {G1 G2 : Option Nat} {la lc : List UInt8} (h : Pr w wr g b1 b2 O G1 G2 la lc) (hK : Kp b1 G1 wr w') (ho : wr.heap[k]? = some o) (hk : k ≠ b1) (hG : ∀ x, G1 = some x → x < k) : w'.heap[k]? = some o :=
  hK.row ho hk (fun x hx => by have := hG x hx; omega)
theorem Pr.xrow2 {w wr w' : World} {g b1 b2 k : Nat} {O o : Obj} {G1 G2 : Option Nat} {la lc : List UInt8} (h : Pr w wr g b1 b2 O G1 G2 la lc) (hK : Kp b2 G2 wr w') (ho : wr.heap[k]? = some o) (hk : k ≠ b2) (hG : ∀ x, G2 = some x → x < k) : w'.heap[k]? = some o :=
  hK.row ho hk (fun x hx => by have := hG x hx; omega)
theorem Pr.new (w W : World) (g : Nat) (O : Obj) (hg : Gr w W) (hr : W.heap[g]? = some O) (hlo : w.heap.size ≤ g) :
    Pr w ((W.alloc (.cells #[.pointer none, .slice none 0 0] 135)).alloc (.cells #[.pointer none, .slice none 0 0] 135)) g W.heap.size (W.heap.size + 1) O none none [] [] := by
  have hlt : g < W.heap.size := by
    rcases Nat.lt_or_ge g W.heap.size with h2 | h2
    · exact h2
    · rw [Array.getElem?_eq_none h2] at hr; cases hr
  have hG : Gr W ((W.alloc (.cells #[.pointer none, .slice none 0 0] 135)).alloc (.cells #[.pointer none, .slice none 0 0] 135)) := ((Gr.refl W).alloc _).alloc _
  refine ⟨hg.trans hG, (hG.block hlt).trans hr, (Bd.new W).gr ((Gr.refl _).alloc _), ?_, by omega, by simp, by simp, by simp, hlo, hlt, by omega⟩
  have := Bd.new (W.alloc (.cells #[.pointer none, .slice none 0 0] 135))
  rwa [alloc_size] at this
theorem str_app (a b : List UInt8) : (⟨a.toArray⟩ : ByteArray) ++ ⟨b.toArray⟩ = ⟨(a ++ b).toArray⟩ := by
  apply ByteArray.ext; simp
end Go.Proofs.Ytmpmfgkabjedpaa
