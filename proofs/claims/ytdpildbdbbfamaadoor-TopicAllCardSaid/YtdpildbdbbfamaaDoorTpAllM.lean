/- Layer 20: what matches what, of words as lists. No program in sight. -/
import Derived.Test.YtdpildbdbbfamaaDoorTpU
namespace Go.Proofs.YtdpildbdbbfamaaDoor
set_option linter.unusedVariables false
set_option linter.unusedSimpArgs false
theorem mtU_hash (ps k : List (List UInt8)) : mtU ([35] :: ps) k = true ↔ ∃ j, j ≤ k.length ∧ mtU ps (k.drop j) = true := by
  have e : mtU ([35] :: ps) k = (List.range (k.length + 1)).any (fun i => mtU ps (k.drop i)) := by
    cases k <;> (rw [mtU]; rw [if_pos (by rfl)])
  rw [e, List.any_eq_true]
  constructor
  · rintro ⟨j, hj, h1⟩
    exact ⟨j, by rw [List.mem_range] at hj; omega, h1⟩
  · rintro ⟨j, hj, h1⟩
    exact ⟨j, by rw [List.mem_range]; omega, h1⟩
theorem mtU_self : ∀ ws : List (List UInt8), mtU ws ws = true
  | [] => rfl
  | w :: ws => by
    by_cases h : w = [35]
    · subst h
      exact (mtU_hash _ _).2 ⟨1, by simp, mtU_self ws⟩
    · rw [mtU, if_neg (by simpa using h), mtU_self ws]
      simp
theorem mtU_all (ks : List (List UInt8)) : mtU [[35]] ks = true := (mtU_hash _ _).2 ⟨ks.length, Nat.le_refl _, by rw [List.drop_length]; rfl⟩
theorem mtU_stars : ∀ (n : Nat) (ks : List (List UInt8)), mtU (List.replicate n [42]) ks = decide (ks.length = n)
  | 0, ks => by
    cases ks <;> rfl
  | n + 1, ks => by
    rw [List.replicate_succ]
    cases ks with
    | nil => rw [mtU, if_neg (by decide)]; simp
    | cons w ws =>
      rw [mtU, if_neg (by decide), mtU_stars n ws]
      simp
theorem split_app : ∀ p r : List UInt8, splitW (p ++ 46 :: r) = splitW p ++ splitW r
  | [], r => by
    show splitW (46 :: r) = [] :: splitW r
    conv => lhs; rw [splitW, if_pos rfl]
  | c :: p, r => by
    rw [List.cons_append]
    conv => lhs; rw [splitW, split_app p r]
    conv => rhs; rw [splitW]
    by_cases h : c = 46
    · rw [if_pos h, if_pos h]; rfl
    · rw [if_neg h, if_neg h]
      cases hs : splitW p with
      | nil => exact absurd hs (split_ne p)
      | cons w ws => rfl
theorem mtU_app (ps qs k : List (List UInt8)) : mtU (ps ++ qs) k = true ↔ ∃ i, i ≤ k.length ∧ mtU ps (k.take i) = true ∧ mtU qs (k.drop i) = true := by
  rw [← mt_U, List.map_append, mt_app, List.length_map]
  constructor
  · rintro ⟨i, hi, h1, h2⟩
    refine ⟨i, hi, ?_, ?_⟩
    · rw [← List.map_take, mt_U] at h1; exact h1
    · rw [← List.map_drop, mt_U] at h2; exact h2
  · rintro ⟨i, hi, h1, h2⟩
    refine ⟨i, hi, ?_, ?_⟩
    · rw [← List.map_take, mt_U]; exact h1
    · rw [← List.map_drop, mt_U]; exact h2
def mtB (p k : List UInt8) : Bool := mtU (wordsL p) (wordsL k)
theorem mtB_self (k : List UInt8) : mtB k k = true := mtU_self _
theorem mtB_all (k : List UInt8) : mtB [35] k = true := mtU_all _
theorem mtB_behind (p k : List UInt8) (hp : p ≠ []) (h : mtB p k = true) : mtB (p ++ [46, 35]) k = true := by
  unfold mtB at *
  have e1 : wordsL (p ++ [46, 35]) = splitW p ++ [[35]] := by
    unfold wordsL
    rw [if_neg (by simp)]
    exact split_app p [35]
  have e2 : wordsL p = splitW p := if_neg hp
  rw [e1]
  rw [e2] at h
  exact (mtU_app _ _ _).2 ⟨_, Nat.le_refl _, by rw [List.take_length]; exact h, mtU_all _⟩
theorem mtB_ahead (p k : List UInt8) (hp : p ≠ []) (h : mtB p k = true) : mtB ([35, 46] ++ p) k = true := by
  unfold mtB at *
  have e1 : wordsL ([35, 46] ++ p) = [35] :: splitW p := by
    unfold wordsL
    rw [if_neg (by simp)]
    exact split_app [35] p
  have e2 : wordsL p = splitW p := if_neg hp
  rw [e1]
  rw [e2] at h
  exact (mtU_hash _ _).2 ⟨0, by omega, h⟩
/-- so many stars -/
def stars : Nat → List UInt8
  | 0 => []
  | n + 1 => stars n ++ [46, 42]
theorem stars_len : ∀ n, (stars n).length = 2 * n
  | 0 => rfl
  | n + 1 => by
    show (stars n ++ [46, 42]).length = _
    rw [List.length_append, stars_len n]
    simp
    omega
theorem stars_split : ∀ n, splitW (stars (n + 1)) = [] :: List.replicate (n + 1) [42]
  | 0 => rfl
  | n + 1 => by
    have h := split_app (stars (n + 1)) [42]
    show splitW (stars (n + 1) ++ [46, 42]) = _
    rw [h, stars_split n]
    have : splitW [42] = [[42]] := rfl
    rw [this, List.cons_append]
    congr 1
    rw [show ([[42]] : List (List UInt8)) = List.replicate 1 [42] from rfl, List.replicate_append_replicate]
theorem stars_head : ∀ n, ∃ r, stars (n + 1) = 46 :: r
  | 0 => ⟨[42], rfl⟩
  | n + 1 => by
    obtain ⟨r, hr⟩ := stars_head n
    exact ⟨r ++ [46, 42], by show stars (n + 1) ++ [46, 42] = _; rw [hr]; rfl⟩
theorem stars_words : ∀ n, wordsL ((stars n).drop 1) = List.replicate n [42]
  | 0 => rfl
  | n + 1 => by
    obtain ⟨r, hr⟩ := stars_head n
    have h := stars_split n
    rw [hr] at h ⊢
    rw [splitW, if_pos rfl] at h
    have h2 := (List.cons.inj h).2
    show wordsL r = _
    unfold wordsL
    rw [if_neg (by rintro rfl; have h3 := congrArg List.length hr; rw [stars_len] at h3; simp at h3; omega), h2]
theorem stars_words2 (n : Nat) (hn : n ≠ 0) : wordsL ((stars n).drop 1 ++ [46, 42]) = List.replicate (n + 1) [42] := by
  have h := stars_words (n + 1)
  rw [show stars (n + 1) = stars n ++ [46, 42] from rfl, List.drop_append_of_le_length (by rw [stars_len]; omega)] at h
  exact h
theorem mtB_stars (k : List UInt8) : mtB ((stars (wordsL k).length).drop 1) k = true := by
  unfold mtB
  rw [stars_words, mtU_stars]
  simp
theorem words_zero (k : List UInt8) (h : k ≠ []) : (wordsL k).length ≠ 0 := by
  unfold wordsL
  rw [if_neg h]
  have := split_ne k
  simp [this]
theorem mtB_more (k : List UInt8) (h : k ≠ []) : mtB ((stars (wordsL k).length).drop 1 ++ [46, 42]) k = false := by
  unfold mtB
  rw [stars_words2 _ (words_zero k h), mtU_stars]
  simp
end Go.Proofs.YtdpildbdbbfamaaDoor
