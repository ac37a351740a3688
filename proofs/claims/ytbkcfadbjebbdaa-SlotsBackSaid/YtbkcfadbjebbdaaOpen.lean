/- Slices of texts and of numbers that came in, opened as lists. -/
import Derived.Test.YtbkcfadbjebbdaaSlices
namespace Go.Proofs.Ytbkcfadbjebbdaa
open Go.RowKit Go.ChangeShapes Go.WideShapes Go.ChangeAt
set_option linter.unusedVariables false
def strCell (s : ByteArray) : List Value := [.string s]
def u16Cell (n : Nat) : List Value := [.int .u16 (n : Nat)]
def u32Cell (n : Nat) : List Value := [.int .u32 (n : Nat)]
def i64Cell (n : Int) : List Value := [.int .i64 n]
section
variable {H : Type} {enc : TypeId × Value → H} {P : Program} {w : World} {base : Nat} {held : Bool}
theorem open_strs_list {r : Reach} {b0 : Nat} {t e : Nat} {v : Value} {d : DataW H} {p : List MemPlace} (ht : P.underlying t = some (.slice e)) (he : P.underlying e = some .string) (hn : P.cellsOf e = 1)
    (hv : Value.okWide P w r b0 t v) (h : DataW.Trod enc P w base (fun _ => true) held t v d p) :
    ∃ (A : Option Addr) (cap : Nat) (xs : List ByteArray), v = .slice A xs.length cap ∧ xs.length ≤ cap ∧ cap ≤ maxLen ∧ (∀ x ∈ xs, x.size ≤ maxLen) ∧ SliceAt w A 1 strCell xs :=
  open_slice_as strCell (fun x => x.size ≤ maxLen) ht hn (by omega) hv h fun fuel cs y hy => by
    obtain ⟨s, h1, _, h3⟩ := DataW.trod_string he hy
    exact ⟨s, h1, h3⟩
theorem open_u16s_list {r : Reach} {b0 : Nat} {t e : Nat} {v : Value} {d : DataW H} {p : List MemPlace} (ht : P.underlying t = some (.slice e)) (he : P.underlying e = some (.int .u16)) (hn : P.cellsOf e = 1)
    (hv : Value.okWide P w r b0 t v) (h : DataW.Trod enc P w base (fun _ => true) held t v d p) :
    ∃ (A : Option Addr) (cap : Nat) (xs : List Nat), v = .slice A xs.length cap ∧ xs.length ≤ cap ∧ cap ≤ maxLen ∧ (∀ x ∈ xs, x < 65536) ∧ SliceAt w A 1 u16Cell xs :=
  open_slice_as u16Cell (fun x => x < 65536) ht hn (by omega) hv h fun fuel cs y hy => by
    obtain ⟨a, h1, _, h3⟩ := DataW.trod_int he hy
    obtain ⟨n, rfl, hn⟩ : ∃ n : Nat, a = n ∧ n < 65536 := by
      have h3 : 0 ≤ a ∧ a ≤ 65535 := by simpa [Lit.wf, IntKind.min, IntKind.max, IntKind.signed, IntKind.bits] using h3
      exact ⟨a.toNat, by omega, by omega⟩
    exact ⟨n, h1, hn⟩
theorem open_u32s_list {r : Reach} {b0 : Nat} {t e : Nat} {v : Value} {d : DataW H} {p : List MemPlace} (ht : P.underlying t = some (.slice e)) (he : P.underlying e = some (.int .u32)) (hn : P.cellsOf e = 1)
    (hv : Value.okWide P w r b0 t v) (h : DataW.Trod enc P w base (fun _ => true) held t v d p) :
    ∃ (A : Option Addr) (cap : Nat) (xs : List Nat), v = .slice A xs.length cap ∧ xs.length ≤ cap ∧ cap ≤ maxLen ∧ (∀ x ∈ xs, x < 4294967296) ∧ SliceAt w A 1 u32Cell xs :=
  open_slice_as u32Cell (fun x => x < 4294967296) ht hn (by omega) hv h fun fuel cs y hy => by
    obtain ⟨a, h1, _, h3⟩ := DataW.trod_int he hy
    obtain ⟨n, rfl, hn⟩ : ∃ n : Nat, a = n ∧ n < 4294967296 := by
      have h3 : 0 ≤ a ∧ a ≤ 4294967295 := by simpa [Lit.wf, IntKind.min, IntKind.max, IntKind.signed, IntKind.bits] using h3
      exact ⟨a.toNat, by omega, by omega⟩
    exact ⟨n, h1, hn⟩
end
end Go.Proofs.Ytbkcfadbjebbdaa
