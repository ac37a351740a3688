/- Layer 3: what lay ahead of a reader that told no error. No program in sight. -/
import Derived.Test.YtmpmfgkabjedpaaMgDo04
import Derived.Test.YtmpmfgkabjedpaaMgDo08
import Derived.Test.YtmpmfgkabjedpaaMgDo21
namespace Go.Proofs.Ytmpmfgkabjedpaa
set_option linter.unusedVariables false
set_option linter.unusedSimpArgs false
theorem rdTake_bk {s t s' : ByteArray} {e n : Int} (h : rdTake s e n = (t, s', 0)) : e = 0 ∧ (t.size : Int) = n ∧ s = t ++ s' := by
  unfold rdTake at h
  split at h
  · rename_i he
    simp only [Prod.mk.injEq] at h
    exact absurd h.2.2 he
  · rename_i he
    split at h
    · simp at h
    · rename_i hc
      simp only [Prod.mk.injEq] at h
      obtain ⟨rfl, rfl, rfl⟩ := h
      obtain ⟨l, rfl⟩ := B_of s
      rw [B_extract, B_extract, B_app]
      simp only [B_size] at hc ⊢
      refine ⟨trivial, ?_, ?_⟩
      · simp only [List.drop_zero, List.length_take]
        omega
      · congr 1
        simp only [List.drop_zero, Nat.sub_zero]
        rw [List.take_of_length_le (l := l.drop n.toNat) (by rw [List.length_drop]; exact Nat.le_refl _), List.take_append_drop]
theorem rdNum_bk {s s' : ByteArray} {e : Int} {n k : Nat} (h : rdNum s e k = (n, s', 0)) : e = 0 ∧ s = B (Oct.be n k) ++ s' := by
  unfold rdNum at h
  obtain ⟨t, s2, e2, hq⟩ : ∃ t s2 e2, rdTake s e k = (t, s2, e2) := ⟨_, _, _, rfl⟩
  rw [hq] at h
  simp only [Prod.mk.injEq] at h
  obtain ⟨rfl, rfl, rfl⟩ := h
  obtain ⟨h0, h1, h2⟩ := rdTake_bk hq
  obtain ⟨l, rfl⟩ := B_of t
  rw [B_size] at h1
  have hl : l.length = k := by omega
  refine ⟨h0, ?_⟩
  rw [h2, B_list, ← hl, Oct.be_num]
theorem rdTake_err {s : ByteArray} {e n : Int} (h : e ≠ 0) : rdTake s e n = (.empty, s, e) := by unfold rdTake; rw [if_pos h]
theorem rdNum_err {s : ByteArray} {e : Int} {k : Nat} (h : e ≠ 0) : rdNum s e k = (0, s, e) := by unfold rdNum; rw [rdTake_err h]; rfl
theorem rdFail_ne {e f : Int} (h : e ≠ 0) : rdFail e f = e := by unfold rdFail; rw [if_neg h]
theorem rdFail_0 (f : Int) : rdFail 0 f = f := by unfold rdFail; rw [if_pos rfl]
/-- an error stays -/
theorem rdTake_keep {s : ByteArray} {e n : Int} (h : (rdTake s e n).2.2 = 0) : e = 0 := by
  apply Classical.byContradiction
  intro he
  rw [rdTake_err he] at h; exact he h
theorem rdNum_keep {s : ByteArray} {e : Int} {k : Nat} (h : (rdNum s e k).2.2 = 0) : e = 0 := rdTake_keep h
end Go.Proofs.Ytmpmfgkabjedpaa
namespace Go.Proofs.Ytmpmfgkabjedpaa
set_option linter.unusedVariables false
set_option linter.unusedSimpArgs false
def rdKey (s : ByteArray) (e : Int) : ByteArray × ByteArray × Int := rdTake (rdNum s e 1).2.1 (rdNum s e 1).2.2 (rdNum s e 1).1
def rdCe (s : ByteArray) (e : Int) : Ce × ByteArray × Int :=
  if (rdNum (rdKey s e).2.1 (rdKey s e).2.2 1).1 = 0 then
    (((rdKey s e).1, (rdTake (rdNum (rdNum (rdKey s e).2.1 (rdKey s e).2.2 1).2.1 (rdNum (rdKey s e).2.1 (rdKey s e).2.2 1).2.2 2).2.1 (rdNum (rdNum (rdKey s e).2.1 (rdKey s e).2.2 1).2.1 (rdNum (rdKey s e).2.1 (rdKey s e).2.2 1).2.2 2).2.2 (rdNum (rdNum (rdKey s e).2.1 (rdKey s e).2.2 1).2.1 (rdNum (rdKey s e).2.1 (rdKey s e).2.2 1).2.2 2).1).1, 0, 0),
      (rdTake (rdNum (rdNum (rdKey s e).2.1 (rdKey s e).2.2 1).2.1 (rdNum (rdKey s e).2.1 (rdKey s e).2.2 1).2.2 2).2.1 (rdNum (rdNum (rdKey s e).2.1 (rdKey s e).2.2 1).2.1 (rdNum (rdKey s e).2.1 (rdKey s e).2.2 1).2.2 2).2.2 (rdNum (rdNum (rdKey s e).2.1 (rdKey s e).2.2 1).2.1 (rdNum (rdKey s e).2.1 (rdKey s e).2.2 1).2.2 2).1).2)
  else if (rdNum (rdKey s e).2.1 (rdKey s e).2.2 1).1 = 1 then
    let c := rdNum (rdNum (rdKey s e).2.1 (rdKey s e).2.2 1).2.1 (rdNum (rdKey s e).2.1 (rdKey s e).2.2 1).2.2 4
    let l := rdNum c.2.1 c.2.2 4
    (((rdKey s e).1, .empty, c.1, l.1), l.2.1, if c.1 = 0 then rdFail l.2.2 4 else l.2.2)
  else (((rdKey s e).1, .empty, 0, 0), (rdNum (rdKey s e).2.1 (rdKey s e).2.2 1).2.1, rdFail (rdNum (rdKey s e).2.1 (rdKey s e).2.2 1).2.2 4)
def rdKi (s : ByteArray) (e : Int) : Ki × ByteArray × Int :=
  (((rdKey s e).1, (rdNum (rdKey s e).2.1 (rdKey s e).2.2 4).1), (rdNum (rdKey s e).2.1 (rdKey s e).2.2 4).2)
def ceCan (x : Ce) : Prop := x.1.size ≤ 255 ∧ if x.2.2.1 = 0 then x.2.2.2 = 0 ∧ x.2.1.size ≤ 65535 else x.2.1 = .empty ∧ x.2.2.1 < 4294967296 ∧ x.2.2.2 < 4294967296
def kiCan (x : Ki) : Prop := x.1.size ≤ 255 ∧ x.2 < 4294967296
theorem rdKey_ahead (k : ByteArray) (h : k.size ≤ 255) (r : List UInt8) : rdKey (B ((keyBytes k).data.toList ++ r)) 0 = (k, B r, 0) := by
  obtain ⟨l, rfl⟩ := B_of k
  rw [B_size] at h
  have h1 : (keyBytes (B l)).data.toList = Oct.be l.length 1 ++ l := by
    unfold keyBytes
    rw [clipB_all _ _ (by rw [B_size]; exact h), B_size, B_app, B_list]
  unfold rdKey
  rw [h1, List.append_assoc, rdNum_ahead l.length 1 _ (by omega), rdTake_ahead]
theorem rdKey_back {s t k : ByteArray} {e : Int} (h : rdKey s e = (k, t, 0)) : e = 0 ∧ k.size ≤ 255 ∧ s = keyBytes k ++ t := by
  unfold rdKey at h
  have hn := rdNum_lt s e 1
  obtain ⟨n, s2, e2, hq⟩ : ∃ n s2 e2, rdNum s e 1 = (n, s2, e2) := ⟨_, _, _, rfl⟩
  rw [hq] at h hn
  simp only at h hn
  obtain ⟨rfl, h1, h2⟩ := rdTake_bk h
  obtain ⟨rfl, h3⟩ := rdNum_bk hq
  have h4 : k.size = n := by omega
  refine ⟨rfl, by omega, ?_⟩
  unfold keyBytes
  rw [clipB_all _ _ (by omega), h3, h2, h4, ByteArray.append_assoc]
theorem rdKey_keep {s : ByteArray} {e : Int} (h : (rdKey s e).2.2 = 0) : e = 0 := rdNum_keep (rdTake_keep h)
theorem rdKi_ahead (x : Ki) (h : kiCan x) (r : List UInt8) : rdKi (B ((kiB x).data.toList ++ r)) 0 = (x, B r, 0) := by
  obtain ⟨k, p⟩ := x
  have h1 : (kiB (k, p)).data.toList = (keyBytes k).data.toList ++ Oct.be p 4 := by
    unfold kiB kiBytes
    simp [B]
  unfold rdKi
  rw [h1, List.append_assoc, rdKey_ahead k h.1, rdNum_ahead p 4 _ h.2]
theorem rdKi_back {s t : ByteArray} {x : Ki} {e : Int} (h : rdKi s e = (x, t, 0)) : e = 0 ∧ kiCan x ∧ s = kiB x ++ t := by
  obtain ⟨k, p⟩ := x
  unfold rdKi at h
  obtain ⟨k2, s2, e2, hq⟩ : ∃ n s2 e2, rdKey s e = (n, s2, e2) := ⟨_, _, _, rfl⟩
  rw [hq] at h
  simp only at h
  have hn := rdNum_lt s2 e2 4
  obtain ⟨n, s3, e3, hq3⟩ : ∃ n s3 e3, rdNum s2 e2 4 = (n, s3, e3) := ⟨_, _, _, rfl⟩
  rw [hq3] at h hn
  simp only [Prod.mk.injEq] at h
  obtain ⟨⟨rfl, rfl⟩, rfl, rfl⟩ := h
  obtain ⟨rfl, h3⟩ := rdNum_bk hq3
  obtain ⟨rfl, h1, h2⟩ := rdKey_back hq
  refine ⟨rfl, ⟨h1, hn⟩, ?_⟩
  unfold kiB kiBytes
  rw [h2, h3, ByteArray.append_assoc]
theorem rdCe_ahead (x : Ce) (h : ceCan x) (r : List UInt8) : rdCe (B ((lfB x).data.toList ++ r)) 0 = (x, B r, 0) := by
  obtain ⟨k, v, c, l⟩ := x
  obtain ⟨h0, h⟩ := h
  simp only at h0 h
  by_cases hc : c = 0
  · subst hc
    simp only [if_true] at h
    obtain ⟨rfl, hv⟩ := h
    obtain ⟨vl, rfl⟩ := B_of v
    rw [B_size] at hv
    have h1 : (lfB (k, B vl, 0, 0)).data.toList = (keyBytes k).data.toList ++ (Oct.be 0 1 ++ (Oct.be vl.length 2 ++ vl)) := by
      unfold lfB ceBytes
      rw [if_neg (by simp), clipB_all _ _ (by rw [B_size]; exact hv), B_size]
      simp [B]
    unfold rdCe
    rw [h1]
    simp only [List.append_assoc]
    rw [rdKey_ahead k h0]
    simp only
    rw [rdNum_ahead 0 1 _ (by omega)]
    simp only [if_true]
    rw [rdNum_ahead vl.length 2 _ (by omega)]
    simp only
    rw [rdTake_ahead]
  · rw [if_neg hc] at h
    obtain ⟨rfl, hc2, hl⟩ := h
    have h1 : (lfB (k, .empty, c, l)).data.toList = (keyBytes k).data.toList ++ (Oct.be 1 1 ++ (Oct.be c 4 ++ Oct.be l 4)) := by
      unfold lfB ceBytes
      rw [if_pos hc]
      simp [B]
    unfold rdCe
    rw [h1]
    simp only [List.append_assoc]
    rw [rdKey_ahead k h0]
    simp only
    rw [rdNum_ahead 1 1 _ (by omega)]
    simp only
    rw [if_neg (by omega), if_pos trivial, rdNum_ahead c 4 _ hc2]
    simp only
    rw [rdNum_ahead l 4 _ hl, if_neg hc]
theorem rdCe_back {s t : ByteArray} {x : Ce} {e : Int} (h : rdCe s e = (x, t, 0)) : e = 0 ∧ ceCan x ∧ s = lfB x ++ t := by
  unfold rdCe at h
  obtain ⟨k, s2, e2, hq⟩ : ∃ n s2 e2, rdKey s e = (n, s2, e2) := ⟨_, _, _, rfl⟩
  rw [hq] at h
  simp only at h
  obtain ⟨m, s3, e3, hq3⟩ : ∃ n s3 e3, rdNum s2 e2 1 = (n, s3, e3) := ⟨_, _, _, rfl⟩
  rw [hq3] at h
  simp only at h
  by_cases hm : m = 0
  · subst hm
    rw [if_pos rfl] at h
    have hn := rdNum_lt s3 e3 2
    obtain ⟨n, s4, e4, hq4⟩ : ∃ n s4 e4, rdNum s3 e3 2 = (n, s4, e4) := ⟨_, _, _, rfl⟩
    rw [hq4] at h hn
    simp only at h hn
    obtain ⟨v, s5, e5, hq5⟩ : ∃ v s5 e5, rdTake s4 e4 n = (v, s5, e5) := ⟨_, _, _, rfl⟩
    rw [hq5] at h
    simp only [Prod.mk.injEq] at h
    obtain ⟨rfl, rfl, rfl⟩ := h
    obtain ⟨rfl, h1, h2⟩ := rdTake_bk hq5
    obtain ⟨rfl, h3⟩ := rdNum_bk hq4
    obtain ⟨rfl, h4⟩ := rdNum_bk hq3
    obtain ⟨rfl, h5, h6⟩ := rdKey_back hq
    have h7 : v.size = n := by omega
    refine ⟨rfl, ⟨h5, ?_⟩, ?_⟩
    · simp only [if_true]; exact ⟨trivial, by omega⟩
    · unfold lfB ceBytes
      rw [if_neg (by simp)]
      simp only
      rw [clipB_all _ _ (by omega), h6, h4, h3, h2, h7]
      simp only [ByteArray.append_assoc]
  · rw [if_neg hm] at h
    by_cases hm1 : m = 1
    · subst hm1
      rw [if_pos rfl] at h
      have hn := rdNum_lt s3 e3 4
      obtain ⟨c, s4, e4, hq4⟩ : ∃ n s4 e4, rdNum s3 e3 4 = (n, s4, e4) := ⟨_, _, _, rfl⟩
      rw [hq4] at h hn
      simp only at h hn
      have hl := rdNum_lt s4 e4 4
      obtain ⟨l, s5, e5, hq5⟩ : ∃ n s4' e4', rdNum s4 e4 4 = (n, s4', e4') := ⟨_, _, _, rfl⟩
      rw [hq5] at h hl
      simp only [Prod.mk.injEq] at h hl
      obtain ⟨rfl, rfl, h⟩ := h
      by_cases hc : c = 0
      · rw [if_pos hc] at h
        by_cases he : e5 = 0
        · subst he; rw [rdFail_0] at h; cases h
        · rw [rdFail_ne he] at h; exact absurd h he
      · rw [if_neg hc] at h
        subst h
        obtain ⟨rfl, h2⟩ := rdNum_bk hq5
        obtain ⟨rfl, h3⟩ := rdNum_bk hq4
        obtain ⟨rfl, h4⟩ := rdNum_bk hq3
        obtain ⟨rfl, h5, h6⟩ := rdKey_back hq
        refine ⟨rfl, ⟨h5, ?_⟩, ?_⟩
        · simp only
          rw [if_neg hc]
          exact ⟨trivial, hn, hl⟩
        · unfold lfB ceBytes
          simp only
          rw [if_pos hc, h6, h4, h3, h2]
          simp only [ByteArray.append_assoc]
    · rw [if_neg hm1] at h
      simp only [Prod.mk.injEq] at h
      obtain ⟨_, _, h⟩ := h
      by_cases he : e3 = 0
      · subst he; rw [rdFail_0] at h; cases h
      · rw [rdFail_ne he] at h; exact absurd h he
theorem rdKey_size (s : ByteArray) (e : Int) : (rdKey s e).1.size ≤ s.size ∧ (rdKey s e).2.1.size ≤ s.size := by
  unfold rdKey
  have h1 := rdNum_size s e 1
  have h2 := rdTake_size (rdNum s e 1).2.1 (rdNum s e 1).2.2 (rdNum s e 1).1
  omega
theorem rdCe_size (s : ByteArray) (e : Int) (h : s.size ≤ 60000) : ceOk (rdCe s e).1 ∧ (rdCe s e).2.1.size ≤ s.size := by
  have h1 := rdKey_size s e
  obtain ⟨k, s2, e2, hq⟩ : ∃ n s2 e2, rdKey s e = (n, s2, e2) := ⟨_, _, _, rfl⟩
  unfold rdCe
  rw [hq] at h1 ⊢
  simp only at h1 ⊢
  have h2 := rdNum_size s2 e2 1
  obtain ⟨m, s3, e3, hq3⟩ : ∃ n s3 e3, rdNum s2 e2 1 = (n, s3, e3) := ⟨_, _, _, rfl⟩
  rw [hq3] at h2 ⊢
  simp only at h2 ⊢
  split
  · have h3 := rdNum_size s3 e3 2
    have h4 := rdTake_size (rdNum s3 e3 2).2.1 (rdNum s3 e3 2).2.2 (rdNum s3 e3 2).1
    exact ⟨⟨by simp only; omega, by simp only; omega, by simp only; omega, by simp only; omega⟩, by simp only; omega⟩
  · split
    · have h3 := rdNum_size s3 e3 4
      have h4 := rdNum_size (rdNum s3 e3 4).2.1 (rdNum s3 e3 4).2.2 4
      have h5 := rdNum_lt s3 e3 4
      have h6 := rdNum_lt (rdNum s3 e3 4).2.1 (rdNum s3 e3 4).2.2 4
      exact ⟨⟨by simp only; omega, by show (0 : Nat) ≤ _; omega, h5, h6⟩, by simp only; omega⟩
    · exact ⟨⟨by simp only; omega, by show (0 : Nat) ≤ _; omega, by simp only; omega, by simp only; omega⟩, by simp only; omega⟩
theorem rdKi_size (s : ByteArray) (e : Int) (h : s.size ≤ 60000) : kiOk (rdKi s e).1 ∧ (rdKi s e).2.1.size ≤ s.size := by
  have h1 := rdKey_size s e
  have h2 := rdNum_size (rdKey s e).2.1 (rdKey s e).2.2 4
  have h3 := rdNum_lt (rdKey s e).2.1 (rdKey s e).2.2 4
  unfold rdKi
  exact ⟨⟨by simp only; omega, h3⟩, by simp only; omega⟩
end Go.Proofs.Ytmpmfgkabjedpaa
