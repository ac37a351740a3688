/- strings.Builder as a list of bytes. -/
import Derived.Test.YtmpmfgkabjedpaaBuilder
import Derived.Test.YtmpmfgkabjedpaaOctMath
import Derived.Test.YtmpmfgkabjedpaaOctBig
namespace Go.Proofs.Ytmpmfgkabjedpaa
open Go.RowKit
set_option linter.unusedVariables false
set_option linter.unusedSimpArgs false
set_option maxRecDepth 100000
/-- the block b is a builder that holds the bytes l; it and its buffer lie from B on -/
def Bld (w : World) (B b : Nat) (l : List UInt8) : Prop := Lib.IsBuilder 135 5 B b (Lib.byteCells l) w
theorem BldAt.of {T e B b : Nat} {p : Value} {bs : List Value} {w w' : World} (h : Lib.BuilderAt T e B b p bs w) (hk : ∀ k, B ≤ k → k < w.heap.size → w'.heap[k]? = w.heap[k]?) : Lib.BuilderAt T e B b p bs w' := by
  obtain ⟨hB, v, hb, ho, hn⟩ := h
  have hlt : ∀ {k : Nat} {o : Obj}, w.heap[k]? = some o → k < w.heap.size := fun {k o} hk => by
    rcases Nat.lt_or_ge k w.heap.size with h' | h'
    · exact h'
    · simp [Array.getElem?_eq_none h'] at hk
  refine ⟨hB, v, (hk b hB (hlt hb)).trans hb, ⟨ho.1, ?_⟩, hn⟩
  rcases ho.2 with h2 | ⟨g, c, cur, hv, hg, hh, hx⟩
  · exact .inl h2
  · exact .inr ⟨g, c, cur, hv, hg, (hk g hg (hlt hh)).trans hh, hx⟩
theorem Bld.gr {B b : Nat} {l : List UInt8} {w w' : World} (h : Bld w B b l) (hg : Gr w w') : Bld w' B b l := by
  rcases h with h | h
  · exact .inl (BldAt.of h fun k _ hk => hg.block hk)
  · exact .inr (BldAt.of h fun k _ hk => hg.block hk)
theorem Bld.lt {B b : Nat} {l : List UInt8} {w : World} (h : Bld w B b l) : B ≤ b ∧ b < w.heap.size := by
  have k : ∀ p, Lib.BuilderAt 135 5 B b p (Lib.byteCells l) w → B ≤ b ∧ b < w.heap.size := fun p h => by
    obtain ⟨hB, v, hb, _⟩ := h
    refine ⟨hB, ?_⟩
    rcases Nat.lt_or_ge b w.heap.size with h' | h'
    · exact h'
    · simp [Array.getElem?_eq_none h'] at hb
  rcases h with h | h
  · exact k _ h
  · exact k _ h
theorem Bld.new (w : World) : Bld (w.alloc (.cells #[.pointer none, .slice none 0 0] 135)) w.heap.size w.heap.size [] := Lib.fresh_isBuilder _ _ w
theorem bld_put (B b : Nat) (l : List UInt8) (s : ByteArray) (w : World) (h : Bld w B b l) (hlen : l.length + s.size ≤ 140737488355328) :
    Calls Try.prog 88 #[.pointer (some ⟨b, 0, none⟩), .string s] w fun e w' => e = .returned (.tuple #[.int .i64 s.size, .nilIface]) ∧ Bld w' B b (l ++ s.data.toList) ∧ Below B w w' := by
  have hl := h.lt
  refine (bld_write B b (Lib.byteCells l) s w h (by rw [Lib.byteCells_length]; exact hlen) (by omega)).mono ?_
  rintro e w' ⟨rfl, h1, h2⟩
  refine ⟨rfl, .inr ?_, h2⟩
  rw [Lib.byteCells_append, ← Lib.strCells_eq]
  exact h1
/-- nothing from B on was there: the call's own -/
theorem below_gr {B : Nat} {w w1 w2 : World} (h : Below B w1 w2) (hg : Gr w w1) (hb : w.heap.size ≤ B) : Gr w w2 :=
  Below.trans hg (Below.mono h hb)
end Go.Proofs.Ytmpmfgkabjedpaa
