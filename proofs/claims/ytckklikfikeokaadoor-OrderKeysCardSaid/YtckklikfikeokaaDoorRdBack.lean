/- Layer 3: what lay ahead of a reader that told no error. No program in sight. -/
import Derived.Test.YtckklikfikeokaaDoorOctParse
namespace Go.Proofs.YtckklikfikeokaaDoor
set_option linter.unusedVariables false
set_option linter.unusedSimpArgs false
theorem rdTake_bk {s t s' : ByteArray} {e n : Int} (h : rdTake s e n = (t, s', 0)) : e = 0 ∧ (t.size : Int) = n ∧ s = t ++ s' := by
  unfold rdTake at h
  split at h
  · rename_i he
    simp only [Prod.mk.injEq] at h
    exact absurd h.2.2 he
  · rename_i he
    split at h
    · simp at h
    · rename_i hc
      simp only [Prod.mk.injEq] at h
      obtain ⟨rfl, rfl, rfl⟩ := h
      obtain ⟨l, rfl⟩ := B_of s
      rw [B_extract, B_extract, B_app]
      simp only [B_size] at hc ⊢
      refine ⟨trivial, ?_, ?_⟩
      · simp only [List.drop_zero, List.length_take]
        omega
      · congr 1
        simp only [List.drop_zero, Nat.sub_zero]
        rw [List.take_of_length_le (l := l.drop n.toNat) (by rw [List.length_drop]; exact Nat.le_refl _), List.take_append_drop]
theorem rdNum_bk {s s' : ByteArray} {e : Int} {n k : Nat} (h : rdNum s e k = (n, s', 0)) : e = 0 ∧ s = B (Oct.be n k) ++ s' := by
  unfold rdNum at h
  obtain ⟨t, s2, e2, hq⟩ : ∃ t s2 e2, rdTake s e k = (t, s2, e2) := ⟨_, _, _, rfl⟩
  rw [hq] at h
  simp only [Prod.mk.injEq] at h
  obtain ⟨rfl, rfl, rfl⟩ := h
  obtain ⟨h0, h1, h2⟩ := rdTake_bk hq
  obtain ⟨l, rfl⟩ := B_of t
  rw [B_size] at h1
  have hl : l.length = k := by omega
  refine ⟨h0, ?_⟩
  rw [h2, B_list, ← hl, Oct.be_num]
theorem rdTake_err {s : ByteArray} {e n : Int} (h : e ≠ 0) : rdTake s e n = (.empty, s, e) := by unfold rdTake; rw [if_pos h]
theorem rdNum_err {s : ByteArray} {e : Int} {k : Nat} (h : e ≠ 0) : rdNum s e k = (0, s, e) := by unfold rdNum; rw [rdTake_err h]; rfl
theorem rdFail_ne {e f : Int} (h : e ≠ 0) : rdFail e f = e := by unfold rdFail; rw [if_neg h]
theorem rdFail_0 (f : Int) : rdFail 0 f = f := by unfold rdFail; rw [if_pos rfl]
/-- an error stays -/
theorem rdTake_keep {s : ByteArray} {e n : Int} (h : (rdTake s e n).2.2 = 0) : e = 0 := by
  apply Classical.byContradiction
  intro he
  rw [rdTake_err he] at h; exact he h
theorem rdNum_keep {s : ByteArray} {e : Int} {k : Nat} (h : (rdNum s e k).2.2 = 0) : e = 0 := rdTake_keep h
end Go.Proofs.YtckklikfikeokaaDoor
