/- Layer 3: a codec's list: what bytes are. -/
import Derived.Test.YtlkkgnidcgochaaCodec2
namespace Go.Proofs.Ytlkkgnidcgochaa
open Go.RowKit
set_option linter.unusedVariables false
set_option linter.unusedSimpArgs false
set_option maxRecDepth 100000
set_option maxHeartbeats 1000000
def rdPairs : Nat → ByteArray → Int → List Pr × ByteArray × Int
  | 0, s, e => ([], s, e)
  | k + 1, s, e => if e = 0 then ((rdPair s e).1 :: (rdPairs k (rdPair s e).2.1 (rdPair s e).2.2).1, (rdPairs k (rdPair s e).2.1 (rdPair s e).2.2).2) else ([], s, e)
theorem rdPairs_stop (k : Nat) (s : ByteArray) (e : Int) (h : k = 0 ∨ e ≠ 0) : rdPairs k s e = ([], s, e) := by
  cases k with
  | zero => rfl
  | succ k => rw [rdPairs, if_neg (by omega)]
theorem rdPairs_step (k : Nat) (s : ByteArray) (e : Int) (hk : 0 < k) (he : e = 0) : rdPairs k s e = ((rdPair s e).1 :: (rdPairs (k - 1) (rdPair s e).2.1 (rdPair s e).2.2).1, (rdPairs (k - 1) (rdPair s e).2.1 (rdPair s e).2.2).2) := by
  obtain ⟨k, rfl⟩ : ∃ m, k = m + 1 := ⟨k - 1, by omega⟩
  rw [rdPairs, if_pos he]
  rfl
theorem rdTake_bad (s : ByteArray) (e n : Int) (h : e ≠ 0) : (rdTake s e n).2.2 = e := by unfold rdTake; rw [if_pos h]
theorem rdText_bad (s : ByteArray) (e n : Int) (h : e ≠ 0) : (rdText s e n).2.2 = e := by
  have h1 : (rdNum s e 4).2.2 = e := rdTake_bad s e 4 h
  unfold rdText
  split
  · show rdFail (rdNum s e 4).2.2 5 = e
    rw [h1]; unfold rdFail; rw [if_neg h]
  · rw [h1, rdTake_bad _ _ _ h]
theorem rdPair_shrinks (s : ByteArray) (h : (rdPair s 0).2.2 = 0) : (rdPair s 0).2.1.size + 1 ≤ s.size := by
  have h0 : (rdNum s 0 2).2.2 = 0 := by
    rcases Int.decEq (rdNum s 0 2).2.2 0 with hne | he
    · exact absurd ((rdText_bad _ _ 100 hne).symm.trans h) hne
    · exact he
  have h1 : (rdNum s 0 2).2.1.size + 1 ≤ s.size := by
    unfold rdNum rdTake at h0 ⊢
    rw [if_neg (by omega)] at h0 ⊢
    by_cases hc : ((2 : Nat) : Int) < 0 ∨ (s.size : Int) < ((2 : Nat) : Int)
    · rw [if_pos hc] at h0; cases h0
    · rw [if_neg hc]
      simp only [ByteArray.size_extract]
      omega
  exact Nat.le_trans (Nat.add_le_add_right (rdText_size _ _ 100).2 1) h1
/-- so far: xs read, s' and e' left, of n -/
def Rd (s0 : ByteArray) (n : Nat) (z : List Pr × ByteArray × Int) (xs : List Pr) (s' : ByteArray) (e' : Int) : Prop :=
  xs.length ≤ n ∧ z = (xs ++ (rdPairs (n - xs.length) s' e').1, (rdPairs (n - xs.length) s' e').2) ∧ s'.size ≤ s0.size ∧ xs.length + s'.size ≤ s0.size + (if e' = 0 then 0 else 1) ∧ ∀ x ∈ xs, x.1 < 65536 ∧ x.2.size ≤ s0.size
theorem Rd.start (s0 : ByteArray) (n : Nat) (s : ByteArray) (e : Int) (h : s.size ≤ s0.size) : Rd s0 n (rdPairs n s e) [] s e :=
  ⟨Nat.zero_le _, by simp, h, by split <;> simp <;> omega, fun x hx => by cases hx⟩
theorem Rd.step {s0 : ByteArray} {n : Nat} {z : List Pr × ByteArray × Int} {xs : List Pr} {s' : ByteArray} (h : Rd s0 n z xs s' 0) (hl : xs.length < n) : Rd s0 n z (xs ++ [(rdPair s' 0).1]) (rdPair s' 0).2.1 (rdPair s' 0).2.2 := by
  obtain ⟨h1, h2, h3, h4, h5⟩ := h
  have hp := rdPair_size s' 0
  have hs := rdPair_shrinks s'
  rw [rdPairs_step _ _ _ (by omega) rfl] at h2
  refine ⟨by simp; omega, ?_, Nat.le_trans hp.2.2 h3, ?_, ?_⟩
  · rw [h2, List.length_append, List.length_singleton, Nat.sub_sub, List.append_assoc]; rfl
  · rw [if_pos rfl] at h4
    rw [List.length_append, List.length_singleton]
    split
    · rename_i he; have := hs he; omega
    · omega
  · intro x hx
    rcases List.mem_append.1 hx with hx | hx
    · exact h5 x hx
    · simp at hx; subst hx; exact ⟨hp.1, Nat.le_trans hp.2.1 h3⟩
theorem Rd.done {s0 : ByteArray} {n : Nat} {z : List Pr × ByteArray × Int} {xs : List Pr} {s' : ByteArray} {e' : Int} (h : Rd s0 n z xs s' e') (hd : ¬ xs.length < n ∨ e' ≠ 0) : z = (xs, s', e') := by
  obtain ⟨h1, h2, _⟩ := h
  rw [h2, rdPairs_stop _ _ _ (by omega)]
  simp
theorem Rd.len {s0 : ByteArray} {n : Nat} {z : List Pr × ByteArray × Int} {xs : List Pr} {s' : ByteArray} {e' : Int} (h : Rd s0 n z xs s' e') : xs.length ≤ s0.size + 1 := by
  have := h.2.2.2.1
  split at this <;> omega
theorem pr_info : (Try.prog.info? 87).map (fun i => (i.zero, i.size, i.bytes)) = some (some (.agg #[.int .u16 0, .string { data := #[] }]), 2, 24) := by kernel_rfl
theorem Own.mono {α : Type} {w : World} {base b2 e k : Nat} {enc : α → List Value} {A : Option Addr} {cap : Nat} {xs : List α} (h : Own w base e k enc A cap xs) (hb : b2 ≤ base) : Own w b2 e k enc A cap xs := by
  refine ⟨h.1, ?_⟩
  rcases h.2 with h2 | ⟨g, c, cur, hv, hg, hx⟩
  · exact .inl h2
  · exact .inr ⟨g, c, cur, hv, Nat.le_trans hb hg, hx⟩
theorem Own.grown {α : Type} {w0 w w' : World} {base e k : Nat} {enc : α → List Value} {A : Option Addr} {cap n : Nat} {xs : List α} (h : Own w base e k enc A cap xs) (hg : w.grownBy w' (Value.slice A n cap).ownBlock) (h0 : Gr w0 w) (hb : w0.heap.size ≤ base) : Gr w0 w' := by
  rw [ownOf_eq] at hg
  refine ⟨hg.os.trans (Below.os h0), hg.tape.trans (Below.tape h0), hg.output.trans (Below.output h0), Nat.le_trans (Below.size h0) hg.size, fun j hj => ?_⟩
  rw [hg.block j (Nat.lt_of_lt_of_le hj (Below.size h0)) (fun he => by have := (h.lt he.symm).2; omega)]
  exact Below.block h0 j hj
theorem RdAt.of_block {w w' : World} {b : Nat} {s : ByteArray} {e : Int} (h : RdAt w b s e) (hb : w'.heap[b]? = w.heap[b]?) : RdAt w' b s e :=
  ⟨(World.cell?_of_block (a := ⟨b, 0, none⟩) hb).trans h.s, (World.cell?_of_block (a := ⟨b, 1, none⟩) hb).trans h.e, (World.frozen?_of_block (a := ⟨b, 0, none⟩) hb).trans h.sf, (World.frozen?_of_block (a := ⟨b, 1, none⟩) hb).trans h.ef⟩
def rdList (s : ByteArray) (m : Int) : List Pr × ByteArray × Int :=
  rdPairs (rdNum s 0 4).1 (rdNum s 0 4).2.1 (if max m 0 < ((rdNum s 0 4).1 : Int) then rdFail (rdNum s 0 4).2.2 6 else (rdNum s 0 4).2.2)
def rdListEnd (s : ByteArray) (m : Int) : List Pr × Int :=
  if rdEnd (rdList s m).2.1 (rdList s m).2.2 = 0 then ((rdList s m).1, 0) else ([], rdEnd (rdList s m).2.1 (rdList s m).2.2)
end Go.Proofs.Ytlkkgnidcgochaa
