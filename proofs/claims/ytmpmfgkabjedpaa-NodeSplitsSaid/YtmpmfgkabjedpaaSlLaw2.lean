/- Layer 6: the document's answer is the code's; the example (printed by sllaw2_gen.py). -/
import Derived.Test.YtmpmfgkabjedpaaSlLaw1
namespace Go.Proofs.Ytmpmfgkabjedpaa
open Go.RowKit
set_option linter.unusedVariables false
set_option linter.unusedSimpArgs false
set_option maxRecDepth 100000
set_option maxHeartbeats 4000000
theorem rErr_congr {α β : Type} (bad : α → Bool) (key : α → ByteArray) (bad' : β → Bool) (key' : β → ByteArray) (f : α → β) (hb : ∀ x, bad' (f x) = bad x) (hk : ∀ x, key' (f x) = key x) (xs : List α) : rErr bad' key' (xs.map f) = rErr bad key xs := by
  unfold rErr
  have h1 : (∃ x ∈ xs.map f, bad' x = true) ↔ (∃ x ∈ xs, bad x = true) := by
    constructor
    · rintro ⟨y, hy, h⟩
      obtain ⟨x, hx, rfl⟩ := List.mem_map.1 hy
      exact ⟨x, hx, by rw [← hb]; exact h⟩
    · rintro ⟨x, hx, h⟩
      exact ⟨f x, List.mem_map_of_mem hx, by rw [hb]; exact h⟩
  have h2 : (∃ i a b, (xs.map f)[i]? = some a ∧ (xs.map f)[i + 1]? = some b ∧ SL (key' a) (key' b) = false) ↔ (∃ i a b, xs[i]? = some a ∧ xs[i + 1]? = some b ∧ SL (key a) (key b) = false) := by
    constructor
    · rintro ⟨i, a, b, ha, hb2, h⟩
      rw [List.getElem?_map] at ha hb2
      obtain ⟨x, hx, rfl⟩ := Option.map_eq_some_iff.1 ha
      obtain ⟨y, hy, rfl⟩ := Option.map_eq_some_iff.1 hb2
      rw [hk, hk] at h
      exact ⟨i, x, y, hx, hy, h⟩
    · rintro ⟨i, x, y, hx, hy, h⟩
      refine ⟨i, f x, f y, by rw [List.getElem?_map, hx]; rfl, by rw [List.getElem?_map, hy]; rfl, ?_⟩
      rw [hk, hk]; exact h
  by_cases c1 : ∃ x ∈ xs, bad x = true
  · rw [if_pos c1, if_pos (h1.2 c1)]
  · rw [if_neg c1, if_neg (fun h => c1 (h1.1 h))]
    by_cases c2 : ∃ i a b, xs[i]? = some a ∧ xs[i + 1]? = some b ∧ SL (key a) (key b) = false
    · rw [if_pos c2, if_pos (h2.2 c2)]
    · rw [if_neg c2, if_neg (fun h => c2 (h2.1 h))]
theorem rcErr_leaf (xs : List Ce) : rcErr true xs = lfErr xs := by
  have h := rErr_congr ceBad (fun x : Ce => x.1) (rcBad true) (fun x : Ce => x.1) id (fun x => by simp [rcBad, ceBad]) (fun _ => rfl) xs
  rw [List.map_id] at h
  exact h
theorem rcB_leaf (xs : List Ce) : xs.map (rcB true) = xs.map lfB := List.map_congr_left fun x _ => by
  obtain ⟨a, b, c, d⟩ := x; rfl
theorem rcSum_leaf (xs : List Ce) : rcSum true xs = lfSum xs := by
  unfold rcSum lfSum
  congr 1
theorem rcErr_kids (ys : List Ki) : rcErr false (ys.map ceOf) = kiErr ys :=
  rErr_congr keyBad (fun x : Ki => x.1) (rcBad false) (fun x : Ce => x.1) ceOf (fun x => by simp [rcBad, keyBad, ceOf]; rfl) (fun _ => rfl) ys
theorem rcB_kids (ys : List Ki) : (ys.map ceOf).map (rcB false) = ys.map kiB := by
  rw [List.map_map]
  exact List.map_congr_left fun x _ => by obtain ⟨a, b⟩ := x; rfl
theorem rcSum_kids (ys : List Ki) : rcSum false (ys.map ceOf) = kiSum ys := by
  unfold rcSum kiSum
  rw [List.map_map]
  rfl
def cAwake : Ce := (⟨#[97]⟩, ⟨#[104, 105]⟩, 0, 0)
theorem awake_body : slBody (lfErr [cAwake]) ([cAwake].map lfB) = (⟨#[0, 2, 1, 97, 0, 0, 2, 104, 105]⟩, 0) := by
  have he : lfErr [cAwake] = 0 := by
    refine rErr_ok (fun x hx => ?_) (fun i a b h1 h2 => ?_)
    · simp only [List.mem_singleton] at hx; subst hx; decide
    · simp at h2
  rw [he]
  decide
theorem awake_size : (lfB cAwake).size = 7 := by decide
end Go.Proofs.Ytmpmfgkabjedpaa
