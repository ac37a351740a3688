/- The law OctetReads: its arguments opened. -/
import Derived.Test.YtlkkgnidcgochaaOctReadsWalk
namespace Go.Proofs.Ytlkkgnidcgochaa
open Go.RowKit Go.ChangeShapes Go.WideShapes Go.ChangeAt
set_option linter.unusedVariables false
set_option maxRecDepth 100000
theorem walk_OctetReads (s : ByteArray) (hs : s.size ≤ maxLen) {H : Type} {enc : TypeId × Value → H} {w : World} (v : Value) {d : DataW H} {p : List MemPlace} (hv : Value.okWide Try.prog w .any 0 59 v) (h : DataW.Trod enc Try.prog w 0 (fun _ => true) true 59 v d p) :
    Calls Try.prog 10 #[.string s, v] w fun e w' => e = .returned (.bool true) ∧ Gr w w' := by
  obtain ⟨A, cap, xs, rfl, h1, h2, h3, h4⟩ := open_slice_as (n := 2) actCells (fun x => I64 x.2) Try.underlying59 (by kernel_rfl) (by omega) hv h (fun fuel cs y hy => by
    obtain ⟨y0, y1, n, _, hl, h0, h1⟩ := ChangeShapes.trod_struct2 Try.underlying64 hy
    have hl2 : cs.length = 2 := hl.trans (by kernel_rfl)
    match cs, hl2 with
    | [c0, c1], _ =>
      have k0 : Try.prog.cellsOf 3 = 1 := by kernel_rfl
      simp only [List.drop_zero, k0, List.take_succ_cons, List.take_zero, List.drop_succ_cons] at h0 h1
      obtain ⟨a, ea, _, wa⟩ := DataW.trod_int Try.underlying3 h0
      obtain ⟨b, eb, _, wb⟩ := DataW.trod_int Try.underlying3 h1
      simp only [List.cons.injEq, and_true] at ea eb
      subst ea eb
      exact ⟨(a, b), rfl, I64.of wb⟩)
  exact walk_OctetReads_ s hs A cap xs h1 h2 h3 w h4
end Go.Proofs.Ytlkkgnidcgochaa
