/- A slice of parts (a bool, a number, a text) that came in, opened. -/
import Derived.Test.YtckklikfikeokaaDoorSlices
import Derived.Test.YtckklikfikeokaaDoorOrdW1
import Derived.Lib.SmallJoins
namespace Go.Proofs.YtckklikfikeokaaDoor
open Go.RowKit Go.ChangeShapes Go.WideShapes Go.ChangeAt Go.Deep
set_option linter.unusedVariables false
section
variable {H : Type} {enc : TypeId × Value → H} {P : Program} {w : World} {base : Nat} {held : Bool}
theorem list3 {α : Type} {cs : List α} (h : cs.length = 3) : ∃ c0 c1 c2, cs = [c0, c1, c2] := by
  match cs, h with
  | [c0, c1, c2], _ => exact ⟨c0, c1, c2, rfl⟩
theorem nat64 {a : Int} (h : (Lit.int .u64 a).wf = true) : ∃ n : Nat, a = n ∧ n < 18446744073709551616 := by
  have : 0 ≤ a ∧ a ≤ 18446744073709551615 := by simpa [Lit.wf, IntKind.min, IntKind.max, IntKind.signed, IntKind.bits] using h
  exact ⟨a.toNat, by omega, by omega⟩
theorem open_pas_list {r : Reach} {b0 : Nat} {t e : Nat} {f0 f1 f2 : Field} {v : Value} {d : DataW H} {p : List MemPlace} (ht : P.underlying t = some (.slice e)) (he : P.underlying e = some (.struct #[f0, f1, f2])) (hone : oneCellFields P #[f0, f1, f2] = true) (hn : P.cellsOf e = 3)
    (h0 : P.underlying f0.type = some .bool) (h1 : P.underlying f1.type = some (.int .u64)) (h2 : P.underlying f2.type = some .string)
    (hv : Value.okWide P w r b0 t v) (h : DataW.Trod enc P w base (fun _ => true) held t v d p) :
    ∃ (A : Option Addr) (cap : Nat) (xs : List Pa), v = .slice A xs.length cap ∧ xs.length ≤ cap ∧ cap ≤ maxLen ∧ (∀ x ∈ xs, paOk x) ∧ SliceAt w A 3 paCell xs :=
  open_slice_as paCell paOk ht hn (by omega) hv h fun fuel cs y hy => by
    obtain ⟨xs, n, _, _, hl, hlen, hg⟩ := DataW.trod_struct he hy
    rw [hn] at hl
    obtain ⟨c0, c1, c2, rfl⟩ := list3 hl
    obtain ⟨o0, k0⟩ := hone_of hone 0 f0 rfl
    obtain ⟨o1, k1⟩ := hone_of hone 1 f1 rfl
    obtain ⟨o2, k2⟩ := hone_of hone 2 f2 rfl
    match xs, hlen with
    | [y0, y1, y2], _ =>
      have g0 : DataW.trod enc P w base (fun _ => true) held n f0.type [c0] = some y0 := by simpa [o0, k0] using hg 0 f0 rfl
      have g1 : DataW.trod enc P w base (fun _ => true) held n f1.type [c1] = some y1 := by simpa [o1, k1] using hg 1 f1 rfl
      have g2 : DataW.trod enc P w base (fun _ => true) held n f2.type [c2] = some y2 := by simpa [o2, k2] using hg 2 f2 rfl
      obtain ⟨b, e0, _⟩ := DataW.trod_bool h0 g0
      obtain ⟨a1, e1, _, w1⟩ := DataW.trod_int h1 g1
      obtain ⟨s2, e2, _, _⟩ := DataW.trod_string h2 g2
      simp only [List.cons.injEq, and_true] at e0 e1 e2
      subst e0 e1 e2
      obtain ⟨n1, rfl, b1⟩ := nat64 w1
      exact ⟨(b, n1, s2), rfl, b1⟩
end
end Go.Proofs.YtckklikfikeokaaDoor
