/- Layer 20: the document's Words. -/
import Derived.Test.YtdpildbdbbfamaaDoorTpM
import Derived.Test.YtdpildbdbbfamaaDoorOwn3
import Derived.Test.YtdpildbdbbfamaaDoorTpSeq
namespace Go.Proofs.YtdpildbdbbfamaaDoor
open Go.RowKit
set_option linter.unusedVariables false
set_option linter.unusedSimpArgs false
set_option maxRecDepth 100000
set_option maxHeartbeats 2000000
def strCell' (x : ByteArray) : List Value := [.string x]
def glue (cur : List UInt8) : List (List UInt8) → List (List UInt8)
  | [] => [cur]
  | w :: ws => (cur ++ w) :: ws
theorem glue_dot (cur r : List UInt8) : glue cur (splitW (46 :: r)) = cur :: glue [] (splitW r) := by
  rw [splitW, if_pos rfl]
  show (cur ++ []) :: splitW r = _
  rw [List.append_nil]
  cases h : splitW r with
  | nil => exact absurd h (split_ne r)
  | cons w ws => rfl
theorem glue_one (cur r : List UInt8) (c : UInt8) (hc : c ≠ 46) : glue cur (splitW (c :: r)) = glue (cur ++ [c]) (splitW r) := by
  rw [splitW, if_neg hc]
  cases h : splitW r with
  | nil => exact absurd h (split_ne r)
  | cons w ws =>
    show (cur ++ c :: w) :: ws = (cur ++ [c] ++ w) :: ws
    rw [List.append_assoc]
    rfl
theorem glue_end (cur : List UInt8) : glue cur (splitW []) = [cur] := by
  show [cur ++ []] = [cur]
  rw [List.append_nil]
theorem glue_nil (l : List UInt8) : glue [] (splitW l) = splitW l := by
  cases h : splitW l with
  | nil => exact absurd h (split_ne l)
  | cons w ws => rfl
theorem rw_info_str : (Tryd.prog.info? 9).map (fun i => (i.zero, i.size, i.bytes)) = some (some (.string { data := #[] }), 1, 16) := by kernel_rfl
theorem rw_words1 (s : List UInt8) (hne : s ≠ []) (hs : s.length ≤ 4000) (w : World) : Calls Tryd.prog 22 #[.string (B s)] w fun r w' => ∃ A cap, r = .returned (.slice A (splitW s).length cap) ∧ SliceAt w' A 1 strCell' ((splitW s).map B) ∧ (splitW s).length ≤ cap ∧ cap ≤ maxLen ∧ Gr w w' := by
  obtain ⟨ii, hii, hz0, hz1, hz2⟩ := info_parts rw_info_str
  have hb : (B s).toList.isEmpty = false := by
    rw [ByteArray.toList_eq]
    cases s with
    | nil => exact absurd rfl hne
    | cons c t => rfl
  have hz := B_size s
  obtain ⟨ans, hans⟩ : ∃ ans, ans = splitW s := ⟨_, rfl⟩
  rw [← hans]
  have HANS := Lib.hid hans
  clear hans
  go_enter Tryd.func22, Tryd.ntmps22
  go_wp2
  go_loopw [3, 4, 5] (fun o wv i wr => ∃ (k : Nat) (pre : List (List UInt8)) (cur : List UInt8) (A : Option Addr) (cap : Nat), k ≤ s.length ∧ i = .int .i64 (k : Nat) ∧ wv = .string (B cur) ∧ o = .slice A pre.length cap ∧ pre.length ≤ k ∧ cur.length ≤ k ∧ Hid (splitW s = pre ++ glue cur (splitW (s.drop k)) ∧ Own wr w.heap.size 9 1 strCell' A cap (pre.map B) ∧ Gr w wr)) (fun _ _ i _ => s.length - (intOf i).toNat)
  case atStart => exact ⟨0, [], [], none, 0, by omega, rfl, rfl, rfl, by simp, by simp, by rw [List.drop_zero, glue_nil]; rfl, Own.nil _ _ _ _ _, Gr.refl _⟩
  case round =>
    obtain ⟨k, pre, cur, A, cap, hk, rfl, rfl, rfl, hpl, hcl, HR⟩ := hrel
    have hrow : wr.ownsRow w.heap.size 9 1 (.slice A pre.length cap) pre.length ((pre.map B).flatMap strCell') := by
      have h := HR.out.2.1
      unfold Own at h
      rw [List.length_map] at h
      exact h
    have HROW := Lib.hid hrow
    clear hrow
    by_cases hlt : k < s.length
    · have hdr := List.drop_eq_getElem_cons hlt
      have hB : (B s)[k]'(by rw [B_size]; exact hlt) = s[k] := by
        show s.toArray[k]'(by simpa using hlt) = s[k]
        simp
      have he : (B s).extract k (k + 1) = B [s[k]] := by
        rw [B_ext, hdr, show k + 1 - k = 1 by omega]
        rfl
      generalize s[k] = c at *
      have hlt' : ((k : Nat) : Int) < ((s.length : Nat) : Int) := by omega
      have hw1 : IntKind.i64.wrap (((k : Nat) : Int) + 1) = ((k : Nat) : Int) + 1 := by rw [IntKind.wrap_i64]; omega
      by_cases hc : c = 46
      · subst hc
        have hg1 := glue_dot cur (s.drop (k + 1))
        have HS : Hid (splitW s = (pre ++ [cur]) ++ glue [] (splitW (s.drop (k + 1)))) := by
          show _ = _
          rw [HR.out.1, hdr, hg1, List.append_assoc]
          rfl
        have HG : Hid (Gr w (wr.alloc (.cells #[.string (B cur)] 9))) := HR.out.2.2.alloc _
        have HOW : Hid ((wr.alloc (.cells #[.string (B cur)] 9)).ownsRow w.heap.size 9 1 (.slice A pre.length cap) pre.length ((pre.map B).flatMap strCell')) := HROW.out.alloc _
        clear hdr hg1 he
        go_wp2_with (at_builtin; refine wpList_append_lies _ rfl _ _ 32 rfl w.heap.size 9 ii _ 1 16 Tryd.underlying32 hii hz0 hz1 hz2 rfl (by omega) (.slice A pre.length cap) pre.length ((pre.map B).flatMap strCell') rfl HOW.out ⟨wr.heap.size, 0, none⟩ 1 1 [.string (B cur)] rfl rfl (World.news_of_block (cs := #[.string (B cur)]) (heap_alloc_last wr _)) (fun u hu => by simp at hu; rcases hu with rfl; rfl) (by omega) (by unfold maxLen; omega) (by omega) HG.out.size _ rfl ?_; intro gg cc v5 hown hgrow hat2 hlt5; have HO5 : Hid (Own v5 w.heap.size 9 1 strCell' (some ⟨gg, 0, none⟩) cc ((pre ++ [cur]).map B) ∧ Gr w v5) := ⟨by unfold Own; rw [List.length_map, List.map_append, List.flatMap_append, List.length_append]; exact hown, Own.grown (A := A) (cap := cap) (n := pre.length) (xs := pre.map B) (by unfold Own; rw [List.length_map]; exact HOW.out) hgrow HG.out (Nat.le_refl _)⟩; clear hown hgrow hat2)
        go_roundw
        case rel => exact ⟨k + 1, pre ++ [cur], [], some ⟨gg, 0, none⟩, cc, by omega, by go_num, rfl, by rw [List.length_append]; rfl, by rw [List.length_append]; simp; omega, by simp, HS.out, HO5.out⟩
        case measure => (simp [intOf]; try omega)
      · have hc2 : (((c.toNat : Nat) : Int) == 46) = false := by
          rw [beq_eq_false_iff_ne]
          intro h
          have h1 : c.toNat = 46 := by omega
          exact hc (UInt8.toNat_inj.1 (by rw [h1]; rfl))
        have hg1 := glue_one cur (s.drop (k + 1)) c hc
        have HS : Hid (splitW s = pre ++ glue (cur ++ [c]) (splitW (s.drop (k + 1)))) := by
          show _ = _
          rw [HR.out.1, hdr, hg1]
        have hl9 : ((k : Nat) : Int) + 1 ≤ ((s.length : Nat) : Int) := by omega
        have hl8 : ((k : Nat) : Int) ≤ ((k : Nat) : Int) + 1 := by omega
        have hl7 : ((k : Nat) : Int) ≤ ((s.length : Nat) : Int) := by omega
        have hcat : B cur ++ B [c] = B (cur ++ [c]) := B_app _ _
        have hz2 := B_size cur
        have hz3 := B_size [c]
        clear hdr hg1 hc
        go_wp2
        go_roundw
        case rel => exact ⟨k + 1, pre, cur ++ [c], A, cap, by omega, by go_num, rfl, rfl, by omega, by rw [List.length_append]; simp; omega, HS.out, HR.out.2⟩
        case measure => (simp [intOf]; try omega)
    · obtain rfl : k = s.length := by omega
      have HS : Hid (splitW s = pre ++ [cur]) := by
        show _ = _
        rw [HR.out.1, List.drop_length, glue_end]
      have HG : Hid (Gr w (wr.alloc (.cells #[.string (B cur)] 9))) := HR.out.2.2.alloc _
      have HOW : Hid ((wr.alloc (.cells #[.string (B cur)] 9)).ownsRow w.heap.size 9 1 (.slice A pre.length cap) pre.length ((pre.map B).flatMap strCell')) := HROW.out.alloc _
      go_wp2_with (at_builtin; refine wpList_append_lies _ rfl _ _ 32 rfl w.heap.size 9 ii _ 1 16 Tryd.underlying32 hii hz0 hz1 hz2 rfl (by omega) (.slice A pre.length cap) pre.length ((pre.map B).flatMap strCell') rfl HOW.out ⟨wr.heap.size, 0, none⟩ 1 1 [.string (B cur)] rfl rfl (World.news_of_block (cs := #[.string (B cur)]) (heap_alloc_last wr _)) (fun u hu => by simp at hu; rcases hu with rfl; rfl) (by omega) (by unfold maxLen; omega) (by omega) HG.out.size _ rfl ?_; intro gg cc v5 hown hgrow hat2 hlt5; have HO5 : Hid (Own v5 w.heap.size 9 1 strCell' (some ⟨gg, 0, none⟩) cc ((pre ++ [cur]).map B) ∧ Gr w v5) := ⟨by unfold Own; rw [List.length_map, List.map_append, List.flatMap_append, List.length_append]; exact hown, Own.grown (A := A) (cap := cap) (n := pre.length) (xs := pre.map B) (by unfold Own; rw [List.length_map]; exact HOW.out) hgrow HG.out (Nat.le_refl _)⟩; clear hown hgrow hat2)
      have hans := HANS.out
      go_ret
      rw [hans, HS.out]
      have hcl := HO5.out.1.cap_le
      rw [List.length_map] at hcl
      exact ⟨some ⟨gg, 0, none⟩, cc, by rw [List.length_append]; rfl, HO5.out.1.slice (fun _ => rfl), hcl.1, hcl.2, HO5.out.2⟩
theorem rw_words (s : List UInt8) (hs : s.length ≤ 4000) (w : World) : Calls Tryd.prog 22 #[.string (B s)] w fun r w' => ∃ A cap, r = .returned (.slice A (wordsL s).length cap) ∧ SliceAt w' A 1 strCell' ((wordsL s).map B) ∧ (wordsL s).length ≤ cap ∧ cap ≤ maxLen ∧ Gr w w' := by
  by_cases hne : s = []
  · subst hne
    have hb : (B []).toList.isEmpty = true := by rw [ByteArray.toList_eq]; rfl
    go_enter Tryd.func22, Tryd.ntmps22
    go_wp2
    go_ret
    exact ⟨none, 0, rfl, .inl rfl, Nat.zero_le _, by decide, Gr.refl _⟩
  · have e : wordsL s = splitW s := if_neg hne
    rw [e]
    exact rw_words1 s hne hs w
end Go.Proofs.YtdpildbdbbfamaaDoor
