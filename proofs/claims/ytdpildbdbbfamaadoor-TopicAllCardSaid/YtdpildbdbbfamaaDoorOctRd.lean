/- Layer 3: a reader in memory: what is said of it, and what is plain. -/
import Derived.Test.YtdpildbdbbfamaaDoorBase
import Derived.Test.YtdpildbdbbfamaaDoorOctMath
namespace Go.Proofs.YtdpildbdbbfamaaDoor
open Go.RowKit
set_option linter.unusedVariables false
set_option linter.unusedSimpArgs false
/-- only block b may have changed, and blocks may have come -/
structure Ch (b : Nat) (w w' : World) : Prop where
  os : w'.os = w.os
  tape : w'.tape = w.tape
  output : w'.output = w.output
  size : w.heap.size ≤ w'.heap.size
  block : ∀ k, k < w.heap.size → k ≠ b → w'.heap[k]? = w.heap[k]?
theorem Ch.refl (b : Nat) (w : World) : Ch b w w := ⟨rfl, rfl, rfl, Nat.le_refl _, fun _ _ _ => rfl⟩
theorem Ch.trans {b : Nat} {x y z : World} (h : Ch b x y) (k : Ch b y z) : Ch b x z :=
  ⟨k.os.trans h.os, k.tape.trans h.tape, k.output.trans h.output, Nat.le_trans h.size k.size, fun i hi hb => (k.block i (Nat.lt_of_lt_of_le hi h.size) hb).trans (h.block i hi hb)⟩
theorem Gr.ch {w w' : World} (h : Gr w w') (b : Nat) : Ch b w w' := ⟨Below.os h, Below.tape h, Below.output h, Below.size h, fun k hk _ => Below.block h k hk⟩
theorem Ch.drewN {b : Nat} {w w' : World} (h : Ch b w w') (q : Nat) : Ch b w (w'.drewN q) := h.trans ((Gr.refl w').drewN q |>.ch b)
theorem Ch.drew {b : Nat} {w w' : World} (h : Ch b w w') : Ch b w w'.drew := h.trans ((Gr.refl w').drew |>.ch b)
theorem Ch.alloc {b : Nat} {w w' : World} (h : Ch b w w') (o : Obj) : Ch b w (w'.alloc o) := h.trans ((Gr.refl w').alloc o |>.ch b)
theorem Ch.setCell {b : Nat} {w w' : World} (h : Ch b w w') (i : Nat) (u : Value) : Ch b w (w'.setCell ⟨b, i, none⟩ u) :=
  h.trans ⟨rfl, rfl, rfl, by simp [World.setCell], fun k hk hb => Below.heap_setCell _ _ _ _ (by exact hb)⟩
/-- the block is the call's own: nothing old has turned -/
theorem Ch.gr {b : Nat} {w w1 w2 : World} (h : Ch b w1 w2) (hg : Gr w w1) (hb : w.heap.size ≤ b) : Gr w w2 :=
  ⟨h.os.trans (Below.os hg), h.tape.trans (Below.tape hg), h.output.trans (Below.output hg), Nat.le_trans (Below.size hg) h.size,
   fun k hk => (h.block k (Nat.lt_of_lt_of_le hk (Below.size hg)) (by omega)).trans (Below.block hg k hk)⟩
theorem Ch.cell {b : Nat} {w w' : World} (h : Ch b w w') {p : Addr} (hp : p.block ≠ b) {v : Value} (hv : w.cell? p = some v) : w'.cell? p = some v :=
  (World.cell?_of_block (w := w) (h.block p.block (block_lt_of_cell hv) hp)).trans hv
theorem Ch.frozen {b : Nat} {w w' : World} (h : Ch b w w') {p : Addr} (hp : p.block ≠ b) (hl : p.block < w.heap.size) : w'.frozen? p = w.frozen? p :=
  World.frozen?_of_block (w := w) (h.block p.block hl hp)

/-- a reader (the program's or the reference's): a text and an error's number -/
structure RdAt (w : World) (b : Nat) (s : ByteArray) (e : Int) : Prop where
  s : w.cell? ⟨b, 0, none⟩ = some (.string s)
  e : w.cell? ⟨b, 1, none⟩ = some (.int .i64 e)
  sf : w.frozen? ⟨b, 0, none⟩ = false
  ef : w.frozen? ⟨b, 1, none⟩ = false
theorem RdAt.lt {w : World} {b : Nat} {s : ByteArray} {e : Int} (h : RdAt w b s e) : b < w.heap.size := block_lt_of_cell h.s
theorem RdAt.gr {w w' : World} {b : Nat} {s : ByteArray} {e : Int} (h : RdAt w b s e) (hg : Gr w w') : RdAt w' b s e :=
  ⟨hg.cells h.s, hg.cells h.e, (hg.frozen h.lt).trans h.sf, (hg.frozen h.lt).trans h.ef⟩
theorem RdAt.ch {w w' : World} {b c : Nat} {s : ByteArray} {e : Int} (h : RdAt w b s e) (hg : Ch c w w') (hne : b ≠ c) : RdAt w' b s e :=
  ⟨hg.cell hne h.s, hg.cell hne h.e, (hg.frozen hne h.lt).trans h.sf, (hg.frozen hne h.lt).trans h.ef⟩
theorem RdAt.new (w : World) (t : TypeId) (s : ByteArray) (e : Int) : RdAt (w.alloc (.cells #[.string s, .int .i64 e] t)) w.heap.size s e := by
  have h := heap_alloc_last w (.cells #[.string s, .int .i64 e] t)
  exact ⟨by rw [cell_of_row _ _ 0 _ _ _ h]; rfl, by rw [cell_of_row _ _ 1 _ _ _ h]; rfl, frozen_of_row _ _ 0 _ _ h, frozen_of_row _ _ 1 _ _ h⟩
theorem RdAt.setS {w : World} {b : Nat} {s : ByteArray} {e : Int} (h : RdAt w b s e) (t : ByteArray) : RdAt (w.setCell ⟨b, 0, none⟩ (.string t)) b t e :=
  ⟨World.cell?_setCell_same _ _ _ h.s, by rw [World.cell?_setCell_other _ _ _ _ (by intro x; cases x)]; exact h.e, by rw [World.frozen?_setCell]; exact h.sf, by rw [World.frozen?_setCell]; exact h.ef⟩
theorem RdAt.setE {w : World} {b : Nat} {s : ByteArray} {e : Int} (h : RdAt w b s e) (f : Int) : RdAt (w.setCell ⟨b, 1, none⟩ (.int .i64 f)) b s f :=
  ⟨by rw [World.cell?_setCell_other _ _ _ _ (by intro x; cases x)]; exact h.s, World.cell?_setCell_same _ _ _ h.e, by rw [World.frozen?_setCell]; exact h.sf, by rw [World.frozen?_setCell]; exact h.ef⟩

/-- what a reader answers, and what is left of it -/
def rdTake (s : ByteArray) (e n : Int) : ByteArray × ByteArray × Int :=
  if e ≠ 0 then (ByteArray.empty, s, e) else if n < 0 ∨ (s.size : Int) < n then (ByteArray.empty, s, 3) else (s.extract 0 n.toNat, s.extract n.toNat s.size, e)
def rdNum (s : ByteArray) (e : Int) (k : Nat) : Nat × ByteArray × Int := (Oct.num (rdTake s e k).1.data.toList, (rdTake s e k).2)
def rdFail (e f : Int) : Int := if e = 0 then f else e
def rdText (s : ByteArray) (e most : Int) : ByteArray × ByteArray × Int :=
  if max most 0 < ((rdNum s e 4).1 : Int) then (ByteArray.empty, (rdNum s e 4).2.1, rdFail (rdNum s e 4).2.2 5) else rdTake (rdNum s e 4).2.1 (rdNum s e 4).2.2 (rdNum s e 4).1
def rdEnd (s : ByteArray) (e : Int) : Int := if e ≠ 0 then e else if 0 < s.size then 4 else 0
theorem rdTake_size (s : ByteArray) (e n : Int) : (rdTake s e n).1.size ≤ s.size ∧ (rdTake s e n).2.1.size ≤ s.size ∧ ((rdTake s e n).1.size : Int) ≤ max n 0 := by
  unfold rdTake
  split
  · exact ⟨by show (0 : Nat) ≤ _; omega, Nat.le_refl _, by show ((0 : Nat) : Int) ≤ _; omega⟩
  · split
    · exact ⟨by show (0 : Nat) ≤ _; omega, Nat.le_refl _, by show ((0 : Nat) : Int) ≤ _; omega⟩
    · simp only [ByteArray.size_extract]; omega
theorem rdNum_lt (s : ByteArray) (e : Int) (k : Nat) : (rdNum s e k).1 < 256 ^ k := by
  have h := Oct.num_lt (rdTake s e k).1.data.toList
  have h2 := (rdTake_size s e k).2.2
  refine Nat.lt_of_lt_of_le h (Nat.pow_le_pow_right (by omega) ?_)
  show (rdTake s e k).1.size ≤ k
  omega
theorem rdNum_size (s : ByteArray) (e : Int) (k : Nat) : (rdNum s e k).2.1.size ≤ s.size := (rdTake_size s e k).2.1
theorem rdText_size (s : ByteArray) (e n : Int) : (rdText s e n).1.size ≤ s.size ∧ (rdText s e n).2.1.size ≤ s.size := by
  unfold rdText
  have h := rdNum_size s e 4
  split
  · exact ⟨by show (0 : Nat) ≤ _; omega, h⟩
  · have := rdTake_size (rdNum s e 4).2.1 (rdNum s e 4).2.2 (rdNum s e 4).1
    exact ⟨Nat.le_trans this.1 h, Nat.le_trans this.2.1 h⟩
end Go.Proofs.YtdpildbdbbfamaaDoor
