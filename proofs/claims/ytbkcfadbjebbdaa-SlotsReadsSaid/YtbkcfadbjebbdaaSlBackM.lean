/- Layer 6: what is laid is read as it was, what is read would be laid so. No program in sight. -/
import Derived.Test.YtbkcfadbjebbdaaSlReadL
import Derived.Test.YtbkcfadbjebbdaaSlLaw2
namespace Go.Proofs.Ytbkcfadbjebbdaa
open Go.RowKit
set_option linter.unusedVariables false
set_option linter.unusedSimpArgs false
def ceNorm (x : Ce) : Ce := (x.1, x.2.1, x.2.2.1, if x.2.2.1 = 0 then 0 else x.2.2.2)
theorem rErr_0 {α : Type} {bad : α → Bool} {key : α → ByteArray} {xs : List α} (h : rErr bad key xs = 0) : ∀ x ∈ xs, bad x = false := by
  intro x hx
  cases hb : bad x with
  | false => rfl
  | true => rw [rErr_bad hx hb] at h; cases h
theorem lfB_norm (x : Ce) : lfB (ceNorm x) = lfB x := by
  obtain ⟨k, v, c, l⟩ := x
  unfold ceNorm lfB ceBytes
  simp only
  by_cases hc : c = 0
  · rw [if_neg (by simpa using hc), if_neg (by simpa using hc)]
  · rw [if_pos hc, if_pos hc, if_neg hc]
theorem size_0 {v : ByteArray} (h : v.size = 0) : v = .empty := by
  apply ByteArray.ext; apply Array.eq_empty_of_size_eq_zero; exact h
theorem ceNorm_can {x : Ce} (h : ceBad x = false) (hu : ceU x) : ceCan (ceNorm x) := by
  obtain ⟨k, v, c, l⟩ := x
  unfold ceBad ceFits at h
  simp only [Bool.or_eq_false_iff, decide_eq_false_iff_not, Nat.not_lt, Bool.not_eq_false'] at h
  obtain ⟨h1, h2⟩ := h
  refine ⟨h1, ?_⟩
  simp only [ceNorm]
  by_cases hc : c = 0
  · rw [if_pos hc, if_pos hc]
    rw [if_neg (by simpa using hc)] at h2
    have : v.size ≤ 400 := by simpa using h2
    exact ⟨rfl, by omega⟩
  · rw [if_neg hc, if_neg hc]
    rw [if_pos hc] at h2
    exact ⟨size_0 (by simpa using h2), hu.1, hu.2⟩
theorem slb_fwd (xs : List Ce) (he : lfErr xs = 0) (hu : ∀ x ∈ xs, ceU x) : lfAns (slAt xs.length (xs.map lfB) 0 ++ slCells (xs.map lfB)) xs.length = (xs.map ceNorm, 0) := by
  have hmap : (xs.map ceNorm).map lfB = xs.map lfB := by
    rw [List.map_map]
    exact List.map_congr_left fun x _ => lfB_norm x
  have hL : Lay lfB ceCan (slAt xs.length (xs.map lfB) 0 ++ slCells (xs.map lfB)) xs.length (xs.map ceNorm) := by
    refine ⟨by rw [List.length_map], fun y hy => ?_, by rw [hmap]⟩
    obtain ⟨x, hx, rfl⟩ := List.mem_map.1 hy
    exact ceNorm_can (rErr_0 he x hx) (hu x hx)
  have h0 : rErr ceBad (fun x : Ce => x.1) (xs.map ceNorm) = 0 := by
    rw [rErr_congr ceBad (fun x : Ce => x.1) ceBad (fun x : Ce => x.1) ceNorm (fun _ => rfl) (fun _ => rfl)]
    exact he
  unfold lfAns
  rw [rdAns_some rdg_ce hL, if_pos h0]
theorem slb_len (bs : List ByteArray) : (slAt bs.length bs 0 ++ slCells bs).length = slLen bs := by
  rw [List.length_append, slAt_length, ← slCells_len]; omega
theorem lfB_le {x : Ce} (h : ceCan x) : x.1.size ≤ (lfB x).size ∧ x.2.1.size ≤ (lfB x).size := by
  obtain ⟨k, v, c, l⟩ := x
  obtain ⟨h1, h2⟩ := h
  simp only at h1 h2 ⊢
  unfold lfB ceBytes
  simp only
  by_cases hc : c = 0
  · rw [if_pos hc] at h2
    rw [if_neg (by simpa using hc), clipB_all _ _ h2.2]
    simp only [ByteArray.size_append, keyBytes_size, B_be_size]
    omega
  · rw [if_neg hc] at h2
    rw [if_pos hc, h2.1]
    simp only [ByteArray.size_append, keyBytes_size, B_be_size]
    refine ⟨by omega, by show (0 : Nat) ≤ _; omega⟩
theorem mem_cells {bs : List ByteArray} {b : ByteArray} (h : b ∈ bs) : b.size ≤ (slCells bs).length := by
  obtain ⟨l, r, rfl⟩ := List.append_of_mem h
  rw [slCells_append, slCells_cons, List.length_append, List.length_append]
  have : b.data.toList.length = b.size := by simp
  omega
theorem lay_ok {D : List UInt8} {n : Nat} {l : List Ce} (hD : D.length ≤ 8000) (h : Lay lfB ceCan D n l) : l.length ≤ 4000 ∧ (∀ x ∈ l, ceOk x) := by
  have hlen := h.len
  refine ⟨by rw [h.1]; omega, fun x hx => ?_⟩
  have h1 := lfB_le (h.2.1 x hx)
  have h2 := mem_cells (List.mem_map_of_mem (f := lfB) hx)
  have h3 : (slCells (l.map lfB)).length ≤ D.length := by rw [h.2.2, List.length_append]; omega
  have h4 := ceCan_lt (h.2.1 x hx)
  exact ⟨by omega, by omega, h4.1, h4.2⟩
/-- what a body's cells are laid as -/
theorem slb_rev {D : List UInt8} {n : Nat} {l : List Ce} (h : Lay lfB ceCan D n l) (he : rErr ceBad (fun x : Ce => x.1) l = 0) :
    (slBody (lfErr l) (l.map lfB) = (B D, 0) ∧ D.length ≤ 4072) ∨ (slBody (lfErr l) (l.map lfB) = (.empty, 14) ∧ 4072 < D.length) := by
  have h0 : lfErr l = 0 := he
  have hl : D.length = slLen (l.map lfB) := by
    have h2 := slb_len (l.map lfB)
    rw [List.length_map, h.1] at h2
    have h3 := congrArg List.length h.2.2
    rw [h2] at h3
    exact h3
  unfold slBody
  rw [h0, if_neg (by simp)]
  by_cases hf : 4072 < slLen (l.map lfB)
  · rw [if_pos hf]; exact .inr ⟨rfl, by omega⟩
  · rw [if_neg hf]
    refine .inl ⟨?_, by omega⟩
    rw [List.length_map, h.1, ← h.2.2]; rfl
end Go.Proofs.Ytbkcfadbjebbdaa
