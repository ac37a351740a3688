/- Layer 4: what bytes are a row's key, and which row. No program in sight. -/
import Derived.Test.YtckklikfikeokaaDoorOrdM
import Derived.Test.YtckklikfikeokaaDoorRdBack
namespace Go.Proofs.YtckklikfikeokaaDoor
set_option linter.unusedVariables false
set_option linter.unusedSimpArgs false
def canOk (l : List Pa) : Prop := ∀ p ∈ l, isPlain p ∧ paOk p
theorem key_inj {a b : List Pa} (ha : canOk a) (hb : canOk b) (h : keyB a = keyB b) : a = b := by
  rcases key_dif a b ha hb with ⟨t, rfl⟩ | ⟨t, ht, rfl⟩ | hd
  · rw [keyB_app] at h
    have ht : keyB t = [] := by simpa using h
    have : t = [] := Classical.byContradiction fun h0 => keyB_ne h0 ht
    rw [this, List.append_nil]
  · rw [keyB_app] at h
    have h2 : keyB t = [] := by simpa using h
    exact absurd h2 (keyB_ne ht)
  · exact absurd h hd.ne
/-- bytes that are no row's key -/
def noKey (S : List UInt8) : Prop := ∀ ys, canOk ys → keyB ys ≠ S
theorem noKey_of {xs : List Pa} {s : List UInt8} (hx : canOk xs) (hs : s ≠ []) (h : ∀ p r, isPlain p → paOk p → s ≠ paB p ++ r) : noKey (keyB xs ++ s) := by
  intro ys hy he
  rcases key_dif xs ys hx hy with ⟨t, rfl⟩ | ⟨t, ht, rfl⟩ | hd
  · rw [keyB_app, List.append_cancel_left_eq] at he
    cases t with
    | nil => exact hs he.symm
    | cons p t =>
      have hp := hy p (by simp)
      exact h p (keyB t) hp.1 hp.2 he.symm
  · have := congrArg List.length he
    rw [keyB_app] at this
    simp only [List.length_append] at this
    have h0 : 0 < s.length := List.length_pos_iff.2 hs
    omega
  · exact hd.nopre ⟨s, he.symm⟩
/-- no quoted text lies ahead -/
def noQ (s : List UInt8) : Prop := ∀ T r, s ≠ esc T ++ 0 :: 0 :: r
theorem esc_split : ∀ (T0 s1 T r : List UInt8), esc T0 ++ s1 = esc T ++ 0 :: 0 :: r → ∃ T2, s1 = esc T2 ++ 0 :: 0 :: r
  | [], s1, T, r, h => ⟨T, h⟩
  | c :: T0, s1, T, r, h => by
    cases T with
    | nil => by_cases hc : c = 0 <;> simp [esc, hc] at h
    | cons d T =>
      by_cases hc : c = 0
      · by_cases hd : d = 0
        · simp only [esc, hc, hd, if_pos, List.cons_append, List.cons.injEq, true_and] at h
          exact esc_split T0 s1 T r h
        · simp only [esc, hc, hd, if_pos, if_false, List.cons_append, List.cons.injEq] at h
          first | exact absurd h.1.symm hd | exact h.1.elim | exact h.elim
      · by_cases hd : d = 0
        · simp only [esc, hc, hd, if_pos, if_false, List.cons_append, List.cons.injEq] at h
          first | exact h.1.elim | exact absurd h.1 hc | exact h.elim
        · simp only [esc, hc, hd, if_false, List.cons_append, List.cons.injEq] at h
          exact esc_split T0 s1 T r h.2
theorem noQ_of {T0 s1 : List UInt8} (h : noQ s1) : noQ (esc T0 ++ s1) := by
  intro T r he
  obtain ⟨T2, h2⟩ := esc_split T0 s1 T r he
  exact h T2 r h2
theorem noQ_nil : noQ [] := by intro T r h; cases T <;> simp [esc] at h
theorem noQ_0 : noQ [0] := by
  intro T r h
  cases T with
  | nil => simp [esc] at h
  | cons c T => by_cases hc : c = 0 <;> simp [esc, hc] at h <;> exact hc h.1.symm
theorem noQ_0d {d : UInt8} (l : List UInt8) (h0 : d ≠ 0) (h1 : d ≠ 255) : noQ (0 :: d :: l) := by
  intro T r h
  cases T with
  | nil => simp [esc, h0] at h
  | cons c T =>
    by_cases hc : c = 0
    · simp [esc, hc, h1] at h
    · simp [esc, hc] at h; exact hc h.1.symm
theorem noPa_2 {s : List UInt8} (h : noQ s) : ∀ p r, isPlain p → paOk p → 2 :: s ≠ paB p ++ r := by
  rintro ⟨t, n, T⟩ r _ _ he
  cases t
  · simp [paB] at he
  · simp only [paB, if_pos, List.cons_append, List.cons.injEq, true_and, List.append_assoc] at he
    exact h _ r he
theorem noPa_1 {s : List UInt8} (h : s.length < 8) : ∀ p r, isPlain p → paOk p → 1 :: s ≠ paB p ++ r := by
  rintro ⟨t, n, T⟩ r _ _ he
  cases t
  · have := congrArg List.length he
    simp [paB, Oct.be_length] at this
    omega
  · simp [paB] at he
theorem noPa_c {c : UInt8} {s : List UInt8} (h1 : c ≠ 1) (h2 : c ≠ 2) : ∀ p r, isPlain p → paOk p → c :: s ≠ paB p ++ r := by
  rintro ⟨t, n, T⟩ r _ _ he
  cases t
  · simp [paB, h1] at he
  · simp [paB, h2] at he
theorem rd1_cons (c : UInt8) (l : List UInt8) : rdNum (B (c :: l)) 0 1 = (c.toNat, B l, 0) := by
  have h := rdNum_ahead c.toNat 1 l (by have := c.toNat_lt; omega)
  have hb : Oct.be c.toNat 1 = [c] := by
    have := Oct.be_num [c]
    simpa [Oct.num] using this
  rw [hb] at h
  exact h
theorem rd_short (l : List UInt8) (k : Nat) (h : l.length < k) : rdNum (B l) 0 k = (0, B l, 3) := by
  unfold rdNum rdTake
  rw [if_neg (by simp), if_pos (by rw [B_size]; omega)]
  rfl
theorem rd8_ge (l : List UInt8) (h : 8 ≤ l.length) : rdNum (B l) 0 8 = (Oct.num (l.take 8), B (l.drop 8), 0) ∧ Oct.be (Oct.num (l.take 8)) 8 = l.take 8 ∧ Oct.num (l.take 8) < 18446744073709551616 := by
  have hl : (l.take 8).length = 8 := by rw [List.length_take]; omega
  have hb := Oct.be_num (l.take 8)
  rw [hl] at hb
  have hn := Oct.num_lt (l.take 8)
  rw [hl] at hn
  have h2 := rdNum_ahead (Oct.num (l.take 8)) 8 (l.drop 8) hn
  rw [hb, List.take_append_drop] at h2
  exact ⟨h2, hb, by simpa using hn⟩
/-- what stands for the bytes S: a row, or that there is none -/
def ParsOf (S : List UInt8) (xs : List Pa) (e : Int) : Prop := (e = 0 ∧ canOk xs ∧ keyB xs = S ∧ S.length ≤ 255) ∨ (e = 20 ∧ xs = [] ∧ (255 < S.length ∨ noKey S))
theorem ParsOf.uniq {S : List UInt8} {xs ys : List Pa} {e f : Int} (h : ParsOf S xs e) (k : ParsOf S ys f) : xs = ys ∧ e = f := by
  rcases h with ⟨rfl, h1, h2, h3⟩ | ⟨rfl, rfl, h1⟩
  · rcases k with ⟨rfl, k1, k2, k3⟩ | ⟨rfl, rfl, k1⟩
    · exact ⟨key_inj h1 k1 (h2.trans k2.symm), rfl⟩
    · rcases k1 with k1 | k1
      · omega
      · exact absurd h2 (k1 xs h1)
  · rcases k with ⟨rfl, k1, k2, k3⟩ | ⟨rfl, rfl, k1⟩
    · rcases h1 with h1 | h1
      · omega
      · exact absurd k2 (h1 ys k1)
    · exact ⟨rfl, rfl⟩
end Go.Proofs.YtckklikfikeokaaDoor
