/- What came in, opened. -/
import Derived.Test.YtlkkgnidcgochaaBase
import Derived.ProofKit
import Derived.OpenShut
namespace Go.Proofs.Ytlkkgnidcgochaa
open Go.RowKit
set_option linter.unusedVariables false
section
variable {H : Type} {enc : TypeId × Value → H} {P : Program} {w : World} {base : Nat} {spare : Nat → Bool} {held : Bool}
/-- an array of integers, by value -/
theorem open_int_array {r : Reach} {b0 : Nat} {t e n : Nat} {k : IntKind} {v : Value} {d : DataW H} {p : List MemPlace} (ht : P.underlying t = some (.array n e)) (he : P.underlying e = some (.int k)) (hce : P.cellsOf e = 1) (hct : P.cellsOf t = n)
    (hv : Value.okWide P w r b0 t v) (h : DataW.Trod enc P w base spare held t v d p) :
    ∃ cs : Array Value, v = .agg cs ∧ cs.size = n ∧ ∀ i, i < n → ∃ z, cs[i]? = some (.int k z) ∧ (Lit.int k z).wf = true := by
  have hv' : ∃ cs, v = .agg cs ∧ cs.size = P.cellsOf t := by
    unfold Value.okWide at hv
    rw [ht] at hv
    obtain ⟨cs, h1, h2, _⟩ := hv
    exact ⟨cs, h1, h2⟩
  obtain ⟨cs, rfl, hsz⟩ := hv'
  refine ⟨cs, rfl, hsz.trans hct, ?_⟩
  obtain ⟨fuel, hf⟩ := h
  obtain ⟨xs, m, _, _, hl, hn, he'⟩ := DataW.trod_array ht hf
  intro i hi
  have h2 := he' i hi
  have hi' : i < cs.size := by omega
  rw [hce, Nat.mul_one] at h2
  have hd : (cs.toList.drop i).take 1 = [cs[i]] := by
    rw [List.drop_eq_getElem_cons (by simpa using hi')]; simp
  simp only [Value.cells] at h2
  rw [hd, List.getElem?_eq_getElem (by omega)] at h2
  obtain ⟨z, hz, _, hw⟩ := DataW.trod_int he h2
  simp only [List.cons.injEq, and_true] at hz
  exact ⟨z, by rw [Array.getElem?_eq_getElem hi', hz], hw⟩
end
theorem nat_u32 {a : Int} (h : (Lit.int .u32 a).wf = true) : ∃ n : Nat, a = n ∧ n < 4294967296 := by
  have : 0 ≤ a ∧ a ≤ 4294967295 := by simpa [Lit.wf, IntKind.min, IntKind.max, IntKind.signed, IntKind.bits] using h
  exact ⟨a.toNat, by omega, by omega⟩
end Go.Proofs.Ytlkkgnidcgochaa
