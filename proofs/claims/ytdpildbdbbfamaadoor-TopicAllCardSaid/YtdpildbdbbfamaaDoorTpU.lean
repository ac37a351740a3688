/- Layer 20: all ways, of words as lists. No program in sight. -/
import Derived.Test.YtdpildbdbbfamaaDoorTpM
import Derived.Test.YtdpildbdbbfamaaDoorOctMath
namespace Go.Proofs.YtdpildbdbbfamaaDoor
set_option linter.unusedVariables false
set_option linter.unusedSimpArgs false
theorem isW_B (a b : List UInt8) : isW (B a) (B b) = (a == b) := by
  unfold isW
  rw [ByteArray.toList_eq, ByteArray.toList_eq]
  rfl
/-- all ways, of words as lists -/
def mtU : List (List UInt8) → List (List UInt8) → Bool
  | [], k => k.isEmpty
  | p :: ps, k => if (p == [35]) = true then (List.range (k.length + 1)).any (fun i => mtU ps (k.drop i)) else
    match k with
    | [] => false
    | w :: ws => ((p == [42]) || p == w) && mtU ps ws
theorem mt_U : ∀ (ps ks : List (List UInt8)), mtL (ps.map B) (ks.map B) = mtU ps ks
  | [], ks => by
    rw [List.map_nil, mtL, mtU]
    cases ks <;> rfl
  | p :: ps, ks => by
    rw [List.map_cons]
    have hh : isW (B p) hashW = (p == [35]) := isW_B p [35]
    have hst : isW (B p) starW = (p == [42]) := isW_B p [42]
    cases ks with
    | nil =>
      rw [List.map_nil, mtL, mtU, hh]
      simp only [List.length_nil, List.drop_nil]
      have h := mt_U ps []
      rw [List.map_nil] at h
      rw [h]
    | cons w ws =>
      rw [List.map_cons, mtL, mtU, hh, hst, isW_B, mt_U ps ws]
      simp only [List.length_cons, List.length_map]
      congr 1
      congr 1
      funext i
      have h := mt_U ps ((w :: ws).drop i)
      rw [List.map_drop, List.map_cons] at h
      exact h
end Go.Proofs.YtdpildbdbbfamaaDoor
