/- Layer 4: what stands behind a beginning. No program in sight. -/
import Derived.Test.YtckklikfikeokaaDoorOrdM
namespace Go.Proofs.YtckklikfikeokaaDoor
set_option linter.unusedVariables false
set_option linter.unusedSimpArgs false
/-- the least text behind all with a beginning -/
def aftB (p : List UInt8) : Option (List UInt8) :=
  match h : p.getLast? with
  | none => none
  | some c => if c = 255 then aftB p.dropLast else some (p.dropLast ++ [c + 1])
termination_by p.length
decreasing_by
  have : p ≠ [] := by intro e; subst e; simp at h
  have := List.length_pos_iff.2 this
  simp; omega
theorem aftB_nil : aftB [] = none := by unfold aftB; simp
theorem aftB_255 (p : List UInt8) : aftB (p ++ [255]) = aftB p := by
  rw [aftB]
  have h : (p ++ [255]).getLast? = some 255 := by simp
  split
  · rename_i h2; rw [h] at h2; cases h2
  · rename_i c h2
    rw [h] at h2; cases h2
    rw [if_pos rfl, List.dropLast_concat]
theorem aftB_ne (p : List UInt8) (c : UInt8) (hc : c ≠ 255) : aftB (p ++ [c]) = some (p ++ [c + 1]) := by
  rw [aftB]
  have h : (p ++ [c]).getLast? = some c := by simp
  split
  · rename_i h2; rw [h] at h2; cases h2
  · rename_i d h2
    rw [h] at h2; cases h2
    rw [if_neg hc, List.dropLast_concat]
theorem u8_irr (a : UInt8) : ¬ a < a := by rw [UInt8.lt_iff_toNat_lt]; omega
theorem ge_255 : ∀ (k : Nat) (t : List UInt8), ¬ t < List.replicate k 255 ↔ List.replicate k 255 <+: t
  | 0, t => by simp
  | k + 1, [] => by simp [List.replicate_succ]
  | k + 1, d :: t => by
    rw [List.replicate_succ, List.cons_lt_cons_iff, List.cons_prefix_cons, ← ge_255 k t]
    have hd : d.toNat ≤ 255 := by have := d.toNat_lt; omega
    constructor
    · intro h
      have h1 : ¬ d < 255 := fun e => h (.inl e)
      have he : d = 255 := by
        apply UInt8.toNat.inj
        rw [UInt8.lt_iff_toNat_lt] at h1
        have : (255 : UInt8).toNat = 255 := rfl
        omega
      exact ⟨he.symm, fun e => h (.inr ⟨he, e⟩)⟩
    · rintro ⟨rfl, h⟩ (e | ⟨_, e⟩)
      · exact u8_irr _ e
      · exact h e
theorem between (x y : List UInt8) : ∀ (q t : List UInt8), (¬ t < q ++ x ∧ t < q ++ y) ↔ ∃ r, t = q ++ r ∧ ¬ r < x ∧ r < y
  | [], t => by simp
  | a :: q, [] => by
    constructor
    · rintro ⟨h, _⟩; exact absurd (by simp) h
    · rintro ⟨r, h, _⟩; simp at h
  | a :: q, d :: t => by
    simp only [List.cons_append, List.cons_lt_cons_iff]
    constructor
    · rintro ⟨h1, h2⟩
      have hd : d = a := by
        rcases h2 with h2 | ⟨h2, _⟩
        · exact absurd (.inl h2) h1
        · exact h2
      subst hd
      have h1' : ¬ t < q ++ x := fun e => h1 (.inr ⟨rfl, e⟩)
      have h2' : t < q ++ y := by
        rcases h2 with h2 | ⟨_, h2⟩
        · exact absurd h2 (u8_irr _)
        · exact h2
      obtain ⟨r, rfl, h3, h4⟩ := (between x y q t).1 ⟨h1', h2'⟩
      exact ⟨r, rfl, h3, h4⟩
    · rintro ⟨r, he, h3, h4⟩
      simp only [List.cons.injEq] at he
      obtain ⟨rfl, rfl⟩ := he
      have := (between x y q (q ++ r)).2 ⟨r, rfl, h3, h4⟩
      refine ⟨?_, .inr ⟨rfl, this.2⟩⟩
      rintro (e | ⟨_, e⟩)
      · exact u8_irr _ e
      · exact this.1 e
theorem u8_succ {c : UInt8} (h : c ≠ 255) : (c + 1).toNat = c.toNat + 1 := by
  have h1 : c.toNat ≠ 255 := fun e => h (UInt8.toNat.inj e)
  have h2 := c.toNat_lt
  rw [UInt8.toNat_add]
  show (c.toNat + 1) % 256 = _
  omega
/-- all texts that begin with p stand from it on, ahead of what is behind them -/
theorem aft_in : ∀ (n : Nat) (p t : List UInt8) (k : Nat), p.length = n →
    (match aftB p with
    | none => (¬ t < p ++ List.replicate k 255 ↔ p ++ List.replicate k 255 <+: t)
    | some a => (¬ t < p ++ List.replicate k 255 ∧ t < a ↔ p ++ List.replicate k 255 <+: t)) := by
  intro n
  induction n with
  | zero =>
    intro p t k h
    rw [List.length_eq_zero_iff.1 h, aftB_nil]
    simp only [List.nil_append]
    exact ge_255 k t
  | succ n ih =>
    intro p t k h
    have hne : p ≠ [] := by intro e; subst e; simp at h
    obtain ⟨q, c, rfl⟩ : ∃ q c, p = q ++ [c] := ⟨p.dropLast, p.getLast hne, (List.dropLast_concat_getLast hne).symm⟩
    have hq : q.length = n := by simpa using h
    by_cases hc : c = 255
    · subst hc
      rw [aftB_255]
      have := ih q t (k + 1) hq
      rw [List.replicate_succ] at this
      simpa using this
    · rw [aftB_ne q c hc]
      simp only [List.append_assoc]
      rw [between]
      constructor
      · rintro ⟨r, rfl, h1, h2⟩
        rw [List.prefix_append_right_inj]
        cases r with
        | nil => exact absurd (by simp) h1
        | cons d r =>
          simp only [List.singleton_append, List.cons_lt_cons_iff] at h1 h2
          have hs := u8_succ hc
          have hd : d = c := by
            rcases h2 with h2 | ⟨_, h2⟩
            · have h3 : ¬ d < c := fun e => h1 (.inl e)
              apply UInt8.toNat.inj
              rw [UInt8.lt_iff_toNat_lt] at h2 h3
              omega
            · simp at h2
          subst hd
          rw [List.singleton_append, List.cons_prefix_cons]
          refine ⟨rfl, (ge_255 k r).1 fun e => h1 (.inr ⟨rfl, e⟩)⟩
      · rintro ⟨u, rfl⟩
        refine ⟨c :: (List.replicate k 255 ++ u), by simp, ?_, ?_⟩
        · simp only [List.singleton_append, List.cons_lt_cons_iff]
          rintro (e | ⟨_, e⟩)
          · exact u8_irr _ e
          · exact (ge_255 k _).2 ⟨u, rfl⟩ e
        · simp only [List.cons_lt_cons_iff]
          refine .inl ?_
          rw [UInt8.lt_iff_toNat_lt, u8_succ hc]; omega
/-- nothing stands between a text and its next -/
theorem no_between : ∀ (s t : List UInt8), s < t → ¬ t < s ++ [0]
  | [], [], h => by simp at h
  | [], d :: t, _ => by
    simp only [List.nil_append, List.cons_lt_cons_iff]
    rintro (e | ⟨_, e⟩)
    · rw [UInt8.lt_iff_toNat_lt] at e; simp at e
    · simp at e
  | c :: s, [], h => by simp at h
  | c :: s, d :: t, h => by
    rw [List.cons_lt_cons_iff] at h
    simp only [List.cons_append, List.cons_lt_cons_iff]
    rintro (e | ⟨rfl, e⟩)
    · rcases h with h | ⟨rfl, _⟩
      · exact u8_lt_asymm h e
      · exact u8_irr _ e
    · rcases h with h | ⟨_, h⟩
      · exact u8_irr _ h
      · exact no_between s t h e
end Go.Proofs.YtckklikfikeokaaDoor
