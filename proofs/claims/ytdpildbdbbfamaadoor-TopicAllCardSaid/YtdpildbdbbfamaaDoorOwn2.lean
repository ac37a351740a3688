/- Memory of the call's own: more laws (as in XCodec4). -/
import Derived.Test.YtdpildbdbbfamaaDoorOwn
import Derived.Test.YtdpildbdbbfamaaDoorOctRd
namespace Go.Proofs.YtdpildbdbbfamaaDoor
open Go.RowKit
set_option linter.unusedVariables false
set_option linter.unusedSimpArgs false
theorem Own.mono {α : Type} {w : World} {base b2 e k : Nat} {enc : α → List Value} {A : Option Addr} {cap : Nat} {xs : List α} (h : Own w base e k enc A cap xs) (hb : b2 ≤ base) : Own w b2 e k enc A cap xs := by
  refine ⟨h.1, ?_⟩
  rcases h.2 with h2 | ⟨g, c, cur, hv, hg, hx⟩
  · exact .inl h2
  · exact .inr ⟨g, c, cur, hv, Nat.le_trans hb hg, hx⟩
theorem Own.grown {α : Type} {w0 w w' : World} {base e k : Nat} {enc : α → List Value} {A : Option Addr} {cap n : Nat} {xs : List α} (h : Own w base e k enc A cap xs) (hg : w.grownBy w' (Value.slice A n cap).ownBlock) (h0 : Gr w0 w) (hb : w0.heap.size ≤ base) : Gr w0 w' := by
  rw [ownOf_eq] at hg
  refine ⟨hg.os.trans (Below.os h0), hg.tape.trans (Below.tape h0), hg.output.trans (Below.output h0), Nat.le_trans (Below.size h0) hg.size, fun j hj => ?_⟩
  rw [hg.block j (Nat.lt_of_lt_of_le hj (Below.size h0)) (fun he => by have := (h.lt he.symm).2; omega)]
  exact Below.block h0 j hj
theorem RdAt.of_block {w w' : World} {b : Nat} {s : ByteArray} {e : Int} (h : RdAt w b s e) (hb : w'.heap[b]? = w.heap[b]?) : RdAt w' b s e :=
  ⟨(World.cell?_of_block (a := ⟨b, 0, none⟩) hb).trans h.s, (World.cell?_of_block (a := ⟨b, 1, none⟩) hb).trans h.e, (World.frozen?_of_block (a := ⟨b, 0, none⟩) hb).trans h.sf, (World.frozen?_of_block (a := ⟨b, 1, none⟩) hb).trans h.ef⟩
end Go.Proofs.YtdpildbdbbfamaaDoor
