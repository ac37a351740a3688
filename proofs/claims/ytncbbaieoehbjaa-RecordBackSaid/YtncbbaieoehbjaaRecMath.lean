/- Layer 19: what is written is read, and what is read would be written. No program in sight. -/
import Derived.Test.YtncbbaieoehbjaaOctParse
import Derived.Test.YtncbbaieoehbjaaRecQuE
import Derived.Test.YtncbbaieoehbjaaRecMeE
import Derived.Test.YtncbbaieoehbjaaRecTwR
import Derived.Test.YtncbbaieoehbjaaRecTwL
namespace Go.Proofs.Ytncbbaieoehbjaa
set_option linter.unusedVariables false
set_option linter.unusedSimpArgs false
theorem rdVer_ahead (r : List UInt8) : rdVer (B (Oct.be 1 1 ++ r)) 0 = (B r, 0) := by
  unfold rdVer
  rw [rdNum_ahead 1 1 r (by omega)]
  rfl
theorem rdText_long (n : Nat) (r : List UInt8) (h : n < 4294967296) (m : Int) (hm : max m 0 < (n : Int)) : rdText (B (Oct.be n 4 ++ r)) 0 m = (ByteArray.empty, B r, 5) := by
  unfold rdText
  rw [rdNum_ahead n 4 r (by omega)]
  simp only
  rw [if_pos hm]
  rfl
theorem text_list (D : List UInt8) : Oct.text (B D) = B (Oct.be D.length 4 ++ D) := by
  unfold Oct.text
  rw [B_size, B_app]
theorem rdEnd_nil : rdEnd (B []) 0 = 0 := rfl
theorem qu_list (most ttl tries : Nat) (D : List UInt8) : B (Oct.be 1 1) ++ quBytes most ttl tries (B D) = B (Oct.be 1 1 ++ (Oct.be most 4 ++ (Oct.be ttl 8 ++ (Oct.be tries 4 ++ (Oct.be D.length 4 ++ D))))) := by
  unfold quBytes
  rw [text_list]
  simp only [B_app, List.append_assoc]
theorem qu_round (nm : ByteArray) (most ttl tries : Nat) (dead : ByteArray) (h1 : most < 4294967296) (h2 : U64 ttl) (h3 : tries < 4294967296) (hd : dead.size ≤ 32) :
    rdEndqu nm (B (Oct.be 1 1) ++ quBytes most ttl tries dead) = ((nm, most, ttl, tries, dead), 0) := by
  obtain ⟨D, rfl⟩ := B_of dead
  rw [B_size] at hd
  unfold U64 at h2
  unfold rdEndqu
  rw [qu_list, rdVer_ahead]
  simp only
  unfold rdquB
  rw [rdNum_ahead most 4 _ (by omega)]
  simp only
  rw [rdNum_ahead ttl 8 _ (by omega)]
  simp only
  rw [rdNum_ahead tries 4 _ (by omega)]
  simp only
  have h := rdText_ahead D [] (by omega) 32 (by omega)
  rw [List.append_nil] at h
  rw [h]
  simp only
  rw [if_pos rdEnd_nil]
theorem qu_round_long (nm : ByteArray) (most ttl tries : Nat) (dead : ByteArray) (h1 : most < 4294967296) (h2 : U64 ttl) (h3 : tries < 4294967296) (hd : 32 < dead.size) (hd2 : dead.size ≤ 3000) :
    rdEndqu nm (B (Oct.be 1 1) ++ quBytes most ttl tries dead) = ((ByteArray.empty, 0, 0, 0, ByteArray.empty), 5) := by
  obtain ⟨D, rfl⟩ := B_of dead
  rw [B_size] at hd hd2
  unfold U64 at h2
  unfold rdEndqu
  rw [qu_list, rdVer_ahead]
  simp only
  unfold rdquB
  rw [rdNum_ahead most 4 _ (by omega)]
  simp only
  rw [rdNum_ahead ttl 8 _ (by omega)]
  simp only
  rw [rdNum_ahead tries 4 _ (by omega)]
  simp only
  rw [rdText_long D.length D (by omega) 32 (by omega)]
  simp only
  rw [if_neg (by unfold rdEnd; simp)]
  unfold rdEnd
  simp
theorem me_list (tries ttl : Nat) (D : List UInt8) : B (Oct.be 1 1) ++ meBytes tries ttl (B D) = B (Oct.be 1 1 ++ (Oct.be tries 4 ++ (Oct.be ttl 8 ++ (Oct.be D.length 4 ++ D)))) := by
  unfold meBytes
  rw [text_list]
  simp only [B_app, List.append_assoc]
theorem me_round (nm : ByteArray) (id tries ttl : Nat) (body : ByteArray) (h2 : tries < 4294967296) (h3 : U64 ttl) (hd : body.size ≤ 3000) :
    rdEndme nm id (B (Oct.be 1 1) ++ meBytes tries ttl body) = ((nm, id, tries, ttl, body), 0) := by
  obtain ⟨D, rfl⟩ := B_of body
  rw [B_size] at hd
  unfold U64 at h3
  unfold rdEndme
  rw [me_list, rdVer_ahead]
  simp only
  unfold rdmeB
  rw [rdNum_ahead tries 4 _ (by omega)]
  simp only
  rw [rdNum_ahead ttl 8 _ (by omega)]
  simp only
  have h := rdText_ahead D [] (by omega) 32768 (by omega)
  rw [List.append_nil] at h
  rw [h]
  simp only
  rw [if_pos rdEnd_nil]
theorem tw_ahead (n : Nat) (hn : n < 65536) (r : List UInt8) : rdTw (B (Oct.be 1 1 ++ (Oct.be n 2 ++ r))) 0 = (n, B r, 0) := by
  unfold rdTw
  rw [rdVer_ahead]
  simp only
  rw [rdNum_ahead n 2 r (by omega)]
theorem tw_round (n : Nat) (hn : n < 65536) : rdEndTw (B (Oct.be 1 1) ++ B (Oct.be n 2)) = (n, 0) := by
  have h := tw_ahead n hn []
  rw [List.append_nil] at h
  unfold rdEndTw
  rw [B_app, h]
  simp only
  rw [if_pos rdEnd_nil]
theorem twB (x : Nat) : (twBytes x).data.toList = Oct.be 1 1 ++ Oct.be x 2 := by
  unfold twBytes
  rw [B_app]; rfl
def twSt (n k : Nat) : ByteArray := B (flatW ([n, 1].drop k))
theorem tw_pair (n : Nat) : B (Oct.be 2 4 ++ flatW [n, 1]) = B (Oct.be 2 4 ++ (Oct.be 1 1 ++ (Oct.be n 2 ++ (Oct.be 1 1 ++ Oct.be 1 2)))) := by
  unfold flatW
  simp only [List.flatMap_cons, List.flatMap_nil, List.append_nil, twB, List.append_assoc]
theorem twSt_0 (n : Nat) : twSt n 0 = B (Oct.be 1 1 ++ (Oct.be n 2 ++ (Oct.be 1 1 ++ (Oct.be 1 2 ++ [])))) := by
  unfold twSt flatW
  simp only [List.drop_zero, List.flatMap_cons, List.flatMap_nil, List.append_nil, twB, List.append_assoc]
theorem twSt_1 (n : Nat) : twSt n 1 = B (Oct.be 1 1 ++ (Oct.be 1 2 ++ [])) := by
  unfold twSt flatW
  simp only [List.drop_succ_cons, List.drop_zero, List.flatMap_cons, List.flatMap_nil, List.append_nil, twB, List.append_assoc]
theorem twSt_2 (n : Nat) : twSt n 2 = B [] := rfl
theorem tw_num (n : Nat) : rdNum (B (Oct.be 2 4 ++ flatW [n, 1])) 0 4 = (2, twSt n 0, 0) := by
  rw [rdNum_ahead 2 4 _ (by omega)]; rfl
theorem tw_steps (n : Nat) (hn : n < 65536) (k x : Nat) (h : [n, 1][k]? = some x) : rdTw (twSt n k) 0 = (x, twSt n (k + 1), 0) := by
  match k, h with
  | 0, h =>
    simp only [List.getElem?_cons_zero, Option.some.injEq] at h
    subst h
    rw [twSt_0, tw_ahead n hn, twSt_1]
  | 1, h =>
    simp only [List.getElem?_cons_succ, List.getElem?_cons_zero, Option.some.injEq] at h
    subst h
    rw [twSt_1, tw_ahead 1 (by omega)]; rfl
  | k + 2, h => simp at h
theorem twSt_size (n k : Nat) : (twSt n k).size ≤ 1000000 := by
  unfold twSt
  rw [B_size, flatW_len, List.length_drop]
  simp only [List.length_cons, List.length_nil]
  omega
-- what is read would be written
theorem rdTake_back {s t s' : ByteArray} {e n : Int} (h : rdTake s e n = (t, s', 0)) : e = 0 ∧ (t.size : Int) = n ∧ s = t ++ s' := by
  unfold rdTake at h
  split at h
  · rename_i he
    simp only [Prod.mk.injEq] at h
    exact absurd h.2.2 he
  · rename_i he
    split at h
    · simp at h
    · rename_i hc
      simp only [Prod.mk.injEq] at h
      obtain ⟨rfl, rfl, rfl⟩ := h
      obtain ⟨l, rfl⟩ := B_of s
      rw [B_extract, B_extract, B_app]
      simp only [B_size] at hc ⊢
      refine ⟨trivial, ?_, ?_⟩
      · simp only [List.drop_zero, List.length_take]
        omega
      · congr 1
        simp only [List.drop_zero, Nat.sub_zero]
        rw [List.take_of_length_le (l := l.drop n.toNat) (by rw [List.length_drop]; exact Nat.le_refl _), List.take_append_drop]
theorem rdNum_back {s s' : ByteArray} {e : Int} {n k : Nat} (h : rdNum s e k = (n, s', 0)) : e = 0 ∧ s = B (Oct.be n k) ++ s' := by
  unfold rdNum at h
  obtain ⟨t, s2, e2, hq⟩ : ∃ t s2 e2, rdTake s e k = (t, s2, e2) := ⟨_, _, _, rfl⟩
  rw [hq] at h
  simp only [Prod.mk.injEq] at h
  obtain ⟨rfl, rfl, rfl⟩ := h
  obtain ⟨h0, h1, h2⟩ := rdTake_back hq
  obtain ⟨l, rfl⟩ := B_of t
  rw [B_size] at h1
  have hl : l.length = k := by omega
  refine ⟨h0, ?_⟩
  rw [h2, B_list, ← hl, Oct.be_num]
theorem rdText_back {s s' t : ByteArray} {e m : Int} (h : rdText s e m = (t, s', 0)) : e = 0 ∧ s = Oct.text t ++ s' := by
  unfold rdText at h
  obtain ⟨n, s2, e2, hq⟩ : ∃ n s2 e2, rdNum s e 4 = (n, s2, e2) := ⟨_, _, _, rfl⟩
  rw [hq] at h
  simp only at h
  split at h
  · simp only [Prod.mk.injEq, rdFail] at h
    have := h.2.2
    split at this <;> simp_all
  · obtain ⟨rfl, h1, h2⟩ := rdTake_back h
    obtain ⟨h3, h4⟩ := rdNum_back hq
    refine ⟨h3, ?_⟩
    unfold Oct.text
    rw [h4, h2, ByteArray.append_assoc, show t.size = n by omega]
theorem rdVer_back {s s' : ByteArray} {e : Int} (h : rdVer s e = (s', 0)) : e = 0 ∧ s = B (Oct.be 1 1) ++ s' := by
  unfold rdVer at h
  obtain ⟨n, s2, e2, hq⟩ : ∃ n s2 e2, rdNum s e 1 = (n, s2, e2) := ⟨_, _, _, rfl⟩
  rw [hq] at h
  simp only [Prod.mk.injEq] at h
  obtain ⟨rfl, h⟩ := h
  split at h
  · rename_i h1
    subst h h1
    exact rdNum_back hq
  · unfold rdFail at h
    split at h <;> simp_all
theorem rdEnd_back {s : ByteArray} {e : Int} (h : rdEnd s e = 0) : e = 0 ∧ s = B [] := by
  unfold rdEnd at h
  split at h
  · rename_i he; exact absurd h he
  · rename_i he
    split at h
    · simp at h
    · rename_i hz
      refine ⟨by omega, ?_⟩
      obtain ⟨l, rfl⟩ := B_of s
      rw [B_size] at hz
      cases l with
      | nil => rfl
      | cons x l => simp at hz
theorem me_back {s f0 f4 : ByteArray} {f1 f2 f3 : Nat} {nm : ByteArray} {id : Nat} (h : rdEndme nm id s = ((f0, f1, f2, f3, f4), 0)) : B (Oct.be 1 1) ++ meBytes f2 f3 f4 = s := by
  unfold rdEndme at h
  obtain ⟨sv, ev, hv⟩ : ∃ sv ev, rdVer s 0 = (sv, ev) := ⟨_, _, rfl⟩
  rw [hv] at h
  simp only at h
  unfold rdmeB at h
  obtain ⟨n1, s1, e1, q1⟩ : ∃ n s e, rdNum sv ev 4 = (n, s, e) := ⟨_, _, _, rfl⟩
  rw [q1] at h
  simp only at h
  obtain ⟨n2, s2, e2, q2⟩ : ∃ n s e, rdNum s1 e1 8 = (n, s, e) := ⟨_, _, _, rfl⟩
  rw [q2] at h
  simp only at h
  obtain ⟨n3, s3, e3, q3⟩ : ∃ n s e, rdText s2 e2 32768 = (n, s, e) := ⟨_, _, _, rfl⟩
  rw [q3] at h
  simp only at h
  split at h
  · rename_i hz
    simp only [Prod.mk.injEq, and_true] at h
    obtain ⟨rfl, rfl, rfl, rfl, rfl⟩ := h
    obtain ⟨rfl, rfl⟩ := rdEnd_back hz
    obtain ⟨rfl, h3⟩ := rdText_back q3
    obtain ⟨rfl, h2⟩ := rdNum_back q2
    obtain ⟨rfl, h1⟩ := rdNum_back q1
    obtain ⟨_, h0⟩ := rdVer_back hv
    rw [h0, h1, h2, h3]
    unfold meBytes
    rw [show B [] = ByteArray.empty from rfl, ByteArray.append_empty]
    simp only [ByteArray.append_assoc]
  · rename_i hz
    simp only [Prod.mk.injEq] at h
    exact absurd h.2 hz
end Go.Proofs.Ytncbbaieoehbjaa
