/- A slice that came in, opened as a list of what its elements are. -/
import Derived.Test.YtdpildbdbbfamaaDoorBase
import Derived.ProofKit
import Derived.OpenShut
import Derived.Deep.Slices
namespace Go.Proofs.YtdpildbdbbfamaaDoor
open Go.RowKit
set_option linter.unusedVariables false
set_option linter.unusedSimpArgs false
/-- the slice with the address A holds the things xs, n cells each, as 'enc' has them -/
def SliceAt {α : Type} (w : World) (A : Option Addr) (n : Nat) (enc : α → List Value) (xs : List α) : Prop :=
  xs = [] ∨ ∃ b off, A = some ⟨b, off, none⟩ ∧ ∀ i x, xs[i]? = some x → ∀ j u, (enc x)[j]? = some u → w.cell? ⟨b, off + i * n + j, none⟩ = some u
theorem SliceAt.gr {α : Type} {w w' : World} {A : Option Addr} {n : Nat} {enc : α → List Value} {xs : List α} (h : SliceAt w A n enc xs) (hg : Gr w w') : SliceAt w' A n enc xs := by
  rcases h with h | ⟨b, off, hA, hc⟩
  · exact .inl h
  · exact .inr ⟨b, off, hA, fun i x hx j u hu => hg.cells (hc i x hx j u hu)⟩
section
variable {H : Type} {enc : TypeId × Value → H} {P : Program} {w : World} {base : Nat} {held : Bool}
theorem spot_none {w : World} {a : Addr} {v : Value} (h : w.cell? a = some v) : a.spot = none := by
  unfold World.cell? at h
  split at h
  · split at h
    · cases h
    · rename_i hs; cases hsp : a.spot <;> simp_all
  · cases h
theorem open_slice_as {α : Type} {r : Reach} {b0 : Nat} {t e n : Nat} {v : Value} {d : DataW H} {p : List MemPlace} (cells : α → List Value) (Good : α → Prop) (ht : P.underlying t = some (.slice e)) (hn : P.cellsOf e = n) (hn0 : 0 < n)
    (hv : Value.okWide P w r b0 t v) (h : DataW.Trod enc P w base (fun _ => true) held t v d p)
    (hE : ∀ fuel cs y, DataW.trod enc P w base (fun _ => true) held fuel e cs = some y → ∃ x, cs = cells x ∧ Good x) :
    ∃ (A : Option Addr) (cap : Nat) (xs : List α), v = .slice A xs.length cap ∧ xs.length ≤ cap ∧ cap ≤ maxLen ∧ (∀ x ∈ xs, Good x) ∧ SliceAt w A n cells xs := by
  obtain ⟨A, len, cap, rfl⟩ := WideShapes.okWide_slice ht hv
  obtain ⟨fuel, hf⟩ := h
  rcases Deep.open_slice ht hf with ⟨h1, _⟩ | ⟨a, len', cap', m, k, D, Pl, h1, hb, hl, hm, hmm, _, hx⟩
  · simp [Value.cells] at h1
    obtain ⟨rfl, rfl, rfl⟩ := h1
    exact ⟨none, 0, [], rfl, Nat.le_refl _, Nat.zero_le _, fun x hx => absurd hx (by simp), .inl rfl⟩
  · simp [Value.cells] at h1
    obtain ⟨rfl, rfl, rfl⟩ := h1
    have hm' : m = cap := by simpa using hmm
    have hall : ∀ i, i < len → ∃ x : α, Good x ∧ ∃ cs', cs' = cells x ∧ w.cells? base (a.add (i * n)) n = some cs' := by
      intro i hi
      obtain ⟨cs', g1, g2⟩ := hx i (by omega)
      obtain ⟨x, rfl, hg⟩ := hE _ _ _ g2
      rw [hn] at g1
      exact ⟨x, hg, _, rfl, g1⟩
    have hlist : ∀ k, k ≤ len → ∃ xs : List α, xs.length = k ∧ (∀ x ∈ xs, Good x) ∧ ∀ i x, xs[i]? = some x → w.cells? base (a.add (i * n)) n = some (cells x) := by
      intro k
      induction k with
      | zero => intro _; exact ⟨[], rfl, fun x hx => absurd hx (by simp), fun i x hx => by simp at hx⟩
      | succ k ih =>
        intro hk
        obtain ⟨xs, h1, h2, h3⟩ := ih (by omega)
        obtain ⟨x, hg, cs', rfl, hc⟩ := hall k (by omega)
        refine ⟨xs ++ [x], by simp [h1], fun y hy => ?_, fun i y hy => ?_⟩
        · rcases List.mem_append.1 hy with hy | hy
          · exact h2 y hy
          · simp at hy; subst hy; exact hg
        · by_cases hi : i < xs.length
          · rw [List.getElem?_append_left hi] at hy; exact h3 i y hy
          · rw [List.getElem?_append_right (by omega)] at hy
            have : i = k := by
              rcases Nat.lt_or_ge (i - xs.length) 1 with hlt | hge
              · omega
              · rw [List.getElem?_eq_none (by simpa using hge)] at hy; cases hy
            subst this
            simp [h1] at hy
            subst hy
            exact hc
    obtain ⟨xs, h1, h2, h3⟩ := hlist len (Nat.le_refl _)
    subst h1
    refine ⟨some a, cap, xs, rfl, hl, hm, h2, ?_⟩
    by_cases hz : xs = []
    · exact .inl hz
    · right
      have hpos : 0 < xs.length := List.length_pos_iff.2 hz
      have key : ∀ i x, xs[i]? = some x → ∀ j u, (cells x)[j]? = some u → w.cell? ((a.add (i * n)).add j) = some u := by
        intro i x hx j u hu
        obtain ⟨_, hlen, hcell⟩ := World.cells?_some (h3 i x hx)
        have hj : j < n := by
          rcases Nat.lt_or_ge j (cells x).length with hlt | hge
          · omega
          · rw [List.getElem?_eq_none hge] at hu; cases hu
        rw [← hu]
        exact hcell j hj
      have h0 : a.spot = none := by
        obtain ⟨_, hlen, hcell⟩ := World.cells?_some (h3 0 xs[0] (List.getElem?_eq_getElem hpos))
        have hl0 : 0 < (cells xs[0]).length := by omega
        have hk := key 0 xs[0] (List.getElem?_eq_getElem hpos) 0 _ (List.getElem?_eq_getElem hl0)
        simpa [Addr.add] using spot_none hk
      obtain ⟨b, off, spot⟩ := a
      simp only at h0
      subst h0
      refine ⟨b, off, rfl, fun i x hx j u hu => ?_⟩
      have := key i x hx j u hu
      rwa [Addr.add_mid, Addr.add_mid] at this
end
end Go.Proofs.YtdpildbdbbfamaaDoor
