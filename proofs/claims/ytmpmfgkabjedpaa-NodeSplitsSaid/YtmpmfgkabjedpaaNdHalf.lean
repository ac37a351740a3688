/- Layer 10: where cells are cut (no program in sight): the best place so far. -/
import Derived.Test.YtmpmfgkabjedpaaSl3L
import Derived.Test.YtmpmfgkabjedpaaSl3K
namespace Go.Proofs.Ytmpmfgkabjedpaa
set_option linter.unusedVariables false
set_option linter.unusedSimpArgs false
def hfD (f : Nat → Nat) (all i : Nat) : Int := max ((f i : Int) - ((all : Int) - (f i : Int))) ((all : Int) - (f i : Int) - (f i : Int))
/-- the best place and the least difference behind the places 1 .. k -/
def hfGo (f : Nat → Nat) (all : Nat) (s : Nat × Int) : Nat → Nat × Int
  | 0 => s
  | k + 1 => let r := hfGo f all s k; if r.2 < 0 ∨ hfD f all (k + 1) < r.2 then (k + 1, hfD f all (k + 1)) else r
theorem hfD_nn (f : Nat → Nat) (all i : Nat) : 0 ≤ hfD f all i := by unfold hfD; omega
theorem hfGo_same (f : Nat → Nat) (all : Nat) (s t : Nat × Int) (hs : s.2 < 0) (ht : t.2 < 0) : ∀ k, hfGo f all s (k + 1) = hfGo f all t (k + 1)
  | 0 => by simp [hfGo, hs, ht]
  | k + 1 => by
    have ih := hfGo_same f all s t hs ht k
    show (let r := hfGo f all s (k + 1); if r.2 < 0 ∨ hfD f all (k + 2) < r.2 then (k + 2, hfD f all (k + 2)) else r) = _
    rw [ih]; rfl
theorem hfGo_le (f : Nat → Nat) (all : Nat) (s : Nat × Int) : ∀ k, (hfGo f all s k).1 = s.1 ∨ (1 ≤ (hfGo f all s k).1 ∧ (hfGo f all s k).1 ≤ k)
  | 0 => .inl rfl
  | k + 1 => by
    have ih := hfGo_le f all s k
    by_cases h : (hfGo f all s k).2 < 0 ∨ hfD f all (k + 1) < (hfGo f all s k).2
    · refine .inr ?_
      have : hfGo f all s (k + 1) = (k + 1, hfD f all (k + 1)) := by simp only [hfGo]; rw [if_pos h]
      rw [this]; exact ⟨by show 1 ≤ k + 1; omega, Nat.le_refl _⟩
    · have : hfGo f all s (k + 1) = hfGo f all s k := by simp only [hfGo]; rw [if_neg h]
      rw [this]; omega
theorem hfGo_pos (f : Nat → Nat) (all k : Nat) (s : Nat × Int) (h : (hfGo f all s k).2 < 0 ∨ hfD f all (k + 1) < (hfGo f all s k).2) : hfGo f all s (k + 1) = (k + 1, hfD f all (k + 1)) := by simp only [hfGo]; rw [if_pos h]
theorem hfGo_neg (f : Nat → Nat) (all k : Nat) (s : Nat × Int) (h : ¬ ((hfGo f all s k).2 < 0 ∨ hfD f all (k + 1) < (hfGo f all s k).2)) : hfGo f all s (k + 1) = hfGo f all s k := by simp only [hfGo]; rw [if_neg h]
theorem hfGo_bd (f : Nat → Nat) (all : Nat) (s : Nat × Int) (h0 : -1 ≤ s.2 ∧ s.2 ≤ 100000000000) (hf : ∀ i, f i ≤ 10000000000) (ha : all ≤ 10000000000) : ∀ k, -1 ≤ (hfGo f all s k).2 ∧ (hfGo f all s k).2 ≤ 100000000000
  | 0 => h0
  | k + 1 => by
    by_cases h : (hfGo f all s k).2 < 0 ∨ hfD f all (k + 1) < (hfGo f all s k).2
    · rw [hfGo_pos f all k s h]; have := hf (k + 1); have := hfD_nn f all (k + 1); unfold hfD at *; simp only; omega
    · rw [hfGo_neg f all k s h]; exact hfGo_bd f all s h0 hf ha k
def hfAt {α : Type} (sm : List α → Nat) (xs : List α) : Nat := (hfGo (fun i => sm (xs.take i)) (sm xs) (1, -1) (xs.length - 1)).1
theorem hfAt_le {α : Type} (sm : List α → Nat) (xs : List α) (h : 2 ≤ xs.length) : 1 ≤ hfAt sm xs ∧ hfAt sm xs < xs.length := by
  have := hfGo_le (fun i => sm (xs.take i)) (sm xs) (1, -1) (xs.length - 1)
  unfold hfAt
  rcases this with h2 | h2
  · rw [h2]; simp only; omega
  · omega
theorem sumB_le {α : Type} (g : α → Nat) (m : Nat) : ∀ (xs : List α), (∀ x ∈ xs, g x ≤ m) → (xs.map g).sum ≤ xs.length * m
  | [], _ => by simp
  | x :: xs, h => by
    have h1 := sumB_le g m xs (fun y hy => h y (List.mem_cons_of_mem _ hy))
    have h2 := h x (List.mem_cons_self ..)
    simp only [List.map_cons, List.sum_cons, List.length_cons, Nat.succ_mul]; omega
theorem sumB_take {α : Type} (g : α → Nat) (xs : List α) (i : Nat) : ((xs.take i).map g).sum ≤ (xs.map g).sum := by
  have h : xs.take i ++ xs.drop i = xs := List.take_append_drop i xs
  have h2 : (xs.map g).sum = ((xs.take i).map g).sum + ((xs.drop i).map g).sum := by
    rw [← List.sum_append, ← List.map_append, h]
  omega
theorem nd_cut_ge (m o e t : Nat) : m ≤ (Question.appendCap m o e).cut t := Nat.le_add_right _ _
theorem nd_cut_le (m o e t : Nat) (hm : m ≤ 4000) : (Question.appendCap m o e).cut t ≤ maxLen := by
  show m + t % (2 ^ 63 - m) ≤ maxLen
  have := Nat.mod_lt t (show 0 < 2 ^ 63 - m by omega)
  unfold maxLen; omega
end Go.Proofs.Ytmpmfgkabjedpaa
