/- Layer 3: a number in so many bytes, the program's and the reference's. -/
import Derived.Test.YtmpmfgkabjedpaaMgDo01
import Derived.Laws.IdiomStrings
namespace Go.Proofs.Ytmpmfgkabjedpaa
open Go.RowKit
set_option linter.unusedVariables false
set_option linter.unusedSimpArgs false
set_option maxRecDepth 100000
/-- below 2^64 -/
def U64 (n : Nat) : Prop := n < 18446744073709551616
theorem wrap_u64_of (n : Nat) (h : U64 n) : IntKind.u64.wrap (n : Int) = (n : Int) := by
  have h' : (n : Int) < 18446744073709551616 := by unfold U64 at h; omega
  simp only [IntKind.wrap, IntKind.bits, IntKind.signed, Bool.false_and, Bool.false_eq_true, if_false]
  exact Int.emod_eq_of_lt (by omega) (by simpa using h')
theorem wrap_u64_div (n : Nat) (h : U64 n) : IntKind.u64.wrap ((n : Int) / 256) = ((n / 256 : Nat) : Int) :=
  wrap_u64_of (n / 256) (Nat.lt_of_le_of_lt (Nat.div_le_self _ _) h)
/-- eight bytes' cells -/
def Oct.row (T : Nat → Nat) : Array Value := ((List.range 8).map fun i => Value.int .u8 (T i : Nat)).toArray
theorem Oct.row_get (T : Nat → Nat) {i : Nat} (h : i < 8) : (Oct.row T)[i]? = some (.int .u8 (T i : Nat)) := by simp [Oct.row, h]
theorem Oct.row_size (T : Nat → Nat) : (Oct.row T).size = 8 := by simp [Oct.row]
theorem Oct.row_zero : Oct.row (fun _ => 0) = #[.int .u8 0, .int .u8 0, .int .u8 0, .int .u8 0, .int .u8 0, .int .u8 0, .int .u8 0, .int .u8 0] := rfl
theorem Oct.row_set (T U : Nat → Nat) (k v : Nat) (hU : ∀ i, i < 8 → U i = if i = k then v else T i) : (Oct.row T).setIfInBounds k (.int .u8 (v : Nat)) = Oct.row U := by
  apply Array.ext
  · simp [Oct.row_size]
  · intro i h1 h2
    rw [Oct.row_size] at h2
    have h3 : i < (Oct.row T).size := by rw [Oct.row_size]; exact h2
    rw [Array.getElem_setIfInBounds h3]
    simp only [Oct.row, List.getElem_toArray, List.getElem_map, List.getElem_range, hU i h2]
    by_cases e : k = i
    · subst e; simp
    · simp [e, show ¬ i = k by omega]
attribute [irreducible] Oct.row
def Oct.full (n : Nat) : Nat → Nat := fun i => n / 256 ^ (7 - i) % 256
/-- what the bytes from 8 - b on say -/
theorem Oct.back (n b : Nat) (hb : 1 ≤ b) (hb8 : b ≤ 8) (w : World) :
    (convert 133 9 (.slice (some ⟨w.heap.size, 8 - b, none⟩) b b)).run Try.prog (w.alloc (.cells (Oct.row (Oct.full n)) 161)) = .ok (.string (B (Oct.be n b))) (w.alloc (.cells (Oct.row (Oct.full n)) 161)) := by
  have h := run_convert_bytes_back (P := Try.prog) (w.alloc (.cells (Oct.row (Oct.full n)) 161)) 133 9 5 ⟨w.heap.size, 8 - b, none⟩ b (Oct.be n b) Try.underlying133 Try.underlying5 Try.underlying9 (fun j hj => by
    rw [Oct.be_length] at hj
    rw [Addr.add_mid, cell_of_row _ _ _ _ _ _ (heap_alloc_last _ _), Oct.row_get _ (by omega), Oct.be_get _ _ _ hj, UInt8.toNat_ofNat']
    unfold Oct.full
    rw [show 7 - (8 - b + j) = b - 1 - j by omega])
  rw [Oct.be_length] at h
  exact h

def Oct.made (n k : Nat) : Nat → Nat := fun i => if i < k then n / 256 ^ (7 - i) % 256 else 0
theorem Oct.row_congr {T U : Nat → Nat} (h : ∀ i, i < 8 → T i = U i) : Oct.row T = Oct.row U := by
  unfold Oct.row
  congr 1
  apply List.map_congr_left
  intro i hi
  rw [h i (by simpa using hi)]
theorem Oct.made_full (n : Nat) : Oct.row (Oct.made n 8) = Oct.row (Oct.full n) := Oct.row_congr fun i h => by unfold Oct.made Oct.full; rw [if_pos h]
theorem Oct.shr_eq (n k : Nat) : ((n : Int) / 2 ^ (8 * (7 - k)) % 256) = ((n / 256 ^ (7 - k) % 256 : Nat) : Int) := by
  rw [show (256 : Nat) ^ (7 - k) = 2 ^ (8 * (7 - k)) by rw [Nat.pow_mul]]
  simp
theorem Oct.made_step (n k : Nat) : (Oct.row (Oct.made n k)).setIfInBounds k (.int .u8 ((n / 256 ^ (7 - k) % 256 : Nat) : Int)) = Oct.row (Oct.made n (k + 1)) := by
  apply Oct.row_set
  intro i _
  unfold Oct.made
  by_cases e : i = k
  · subst e; simp
  · by_cases l : i < k
    · simp [e, l, show i < k + 1 by omega]
    · simp [e, l, show ¬ i < k + 1 by omega]
set_option maxHeartbeats 400000 in
theorem oct_big (n : Nat) (hn : U64 n) (b : Nat) (hb : b = 1 ∨ b = 2 ∨ b = 4 ∨ b = 8) (w : World) :
    Calls Try.prog 113 #[.int .u64 n, .int .i64 b] w fun e w' => e = .returned (.string (B (Oct.be n b))) ∧ Gr w w' := by
  have hback := Lib.hid (Oct.back n b (by omega) (by omega) w)
  have HN := Lib.hid hn
  clear hn
  go_enter Try.func113, Try.ntmps113
  go_wp2
  go_loopw [7] (fun i wr => ∃ k : Nat, k ≤ 8 ∧ i = .int .i64 k ∧ wr = w.alloc (.cells (Oct.row (Oct.made n k)) 161)) (fun i _ => 8 - (intOf i).toNat)
  case atStart => exact ⟨0, by omega, rfl, by rw [← Oct.row_zero]; congr 2⟩
  case round =>
    obtain ⟨k, hk, rfl, rfl⟩ := hrel
    by_cases hlt : k < 8
    · have hg := Oct.row_get (Oct.made n k) hlt
      go_wp2
      go_roundw
      case rel => exact ⟨k + 1, by omega, by go_num, by rw [Oct.shr_eq, Oct.made_step n k]⟩
      case measure => simp [intOf]; omega
    · obtain rfl : k = 8 := by omega
      rw [Oct.made_full]
      rcases hb with rfl | rfl | rfl | rfl
      all_goals
        have hbk := hback.out
        simp only [Nat.reduceSub] at hbk
        clear hback
        go_wp2
        go_ret
        exact ⟨rfl, (Gr.refl w).alloc _⟩

def Oct.madeR (n j : Nat) : Nat → Nat := fun i => if 8 ≤ i + j then n / 256 ^ (7 - i) % 256 else 0
theorem Oct.madeR_full (n : Nat) : Oct.row (Oct.madeR n 8) = Oct.row (Oct.full n) := Oct.row_congr fun i h => by unfold Oct.madeR Oct.full; rw [if_pos (by omega)]
theorem Oct.madeR_step (n j : Nat) (hj : j < 8) : (Oct.row (Oct.madeR n j)).setIfInBounds (7 - j) (.int .u8 ((n / 256 ^ j % 256 : Nat) : Int)) = Oct.row (Oct.madeR n (j + 1)) := by
  apply Oct.row_set
  intro i hi
  unfold Oct.madeR
  by_cases e : i = 7 - j
  · subst e
    rw [if_pos (by omega), if_pos rfl, show 7 - (7 - j) = j by omega]
  · by_cases l : 8 ≤ i + j
    · simp [e, l, show 8 ≤ i + (j + 1) by omega]
    · simp [e, l, show ¬ 8 ≤ i + (j + 1) by omega]
set_option maxHeartbeats 400000 in
theorem ref_big (n : Nat) (hn : U64 n) (b : Nat) (hb : b = 1 ∨ b = 2 ∨ b = 4 ∨ b = 8) (w : World) :
    Calls Try.prog 95 #[.int .u64 n, .int .i64 b] w fun e w' => e = .returned (.string (B (Oct.be n b))) ∧ Gr w w' := by
  have hback := Lib.hid (Oct.back n b (by omega) (by omega) w)
  have HN := Lib.hid hn
  clear hn
  go_enter Try.func95, Try.ntmps95
  go_wp2
  go_loopw [0, 6] (fun x i wr => ∃ j : Nat, j ≤ 8 ∧ i = .int .i64 (7 - (j : Int)) ∧ x = .int .u64 (n / 256 ^ j : Nat) ∧ wr = w.alloc (.cells (Oct.row (Oct.madeR n j)) 161)) (fun _ i _ => (1 + intOf i).toNat)
  case atStart => exact ⟨0, by omega, rfl, by simp, by rw [← Oct.row_zero]; congr 2; exact Oct.row_congr fun i h => by unfold Oct.madeR; rw [if_neg (by omega)]⟩
  case round =>
    obtain ⟨j, hj, rfl, rfl, rfl⟩ := hrel
    by_cases hlt : j < 8
    · have hg := Oct.row_get (Oct.madeR n j) (i := 7 - j) (by omega)
      have hi : ((7 : Int) - (j : Int)).toNat = 7 - j := by omega
      have hd : n / 256 ^ (j + 1) = n / 256 ^ j / 256 := by rw [Nat.pow_succ, Nat.div_div_eq_div_mul]
      have HS := Lib.hid (And.intro hd (Oct.madeR_step n j hlt))
      clear hd
      have hm : U64 (n / 256 ^ j) := Nat.lt_of_le_of_lt (Nat.div_le_self _ _) HN.out
      generalize n / 256 ^ j = m at *
      have hwr := wrap_u64_div m hm
      have HM := Lib.hid hm
      clear hm
      go_wp2
      go_roundw
      case rel => exact ⟨j + 1, by omega, by congr 1; omega, by rw [HS.out.1]; rfl, by rw [← HS.out.2]; rfl⟩
      case measure => simp [intOf]; omega
    · obtain rfl : j = 8 := by omega
      rw [Oct.madeR_full]
      rcases hb with rfl | rfl | rfl | rfl
      all_goals
        have hbk := hback.out
        simp only [Nat.reduceSub] at hbk
        clear hback
        go_wp2
        go_ret
        exact ⟨rfl, (Gr.refl w).alloc _⟩
end Go.Proofs.Ytmpmfgkabjedpaa
namespace Go.Proofs.Ytmpmfgkabjedpaa
open Go.RowKit
set_option linter.unusedVariables false
set_option linter.unusedSimpArgs false
set_option maxHeartbeats 400000
theorem Oct.num_take (t : ByteArray) (k : Nat) (h : k < t.size) : Oct.num (t.data.toList.take (k + 1)) = Oct.num (t.data.toList.take k) * 256 + t[k].toNat := by
  rw [List.take_succ_eq_append_getElem (by simpa using h), Oct.num_snoc]; rfl
theorem Oct.num_take_lt (t : ByteArray) (k : Nat) (hk : k < 8) : Oct.num (t.data.toList.take k) < 72057594037927936 := by
  refine Nat.lt_of_lt_of_le (Oct.num_lt _) ?_
  have : (t.data.toList.take k).length ≤ 7 := Nat.le_trans (List.length_take_le _ _) (by omega)
  exact Nat.le_trans (Nat.pow_le_pow_right (by omega) this) (by decide)
theorem Oct.or_eq (m : Nat) (hm : m < 72057594037927936) (b : UInt8) : bits .or .u64 ((m : Int) * 256) (IntKind.u64.wrap (b.toNat : Int)) = ((m * 256 + b.toNat : Nat) : Int) := by
  have hb := b.toNat_lt
  rw [wrap_u64_of b.toNat (by unfold U64; omega), show ((m : Int) * 256) = ((m * 256 : Nat) : Int) by omega, u64_or_nat _ _ (by omega) (by omega), nat_join 8 _ _ (by omega) hb]
theorem oct_number (b : Nat) (s : ByteArray) (hs : s.size ≤ maxLen) (e : Int) (k : Nat) (hk : k ≤ 8) (w : World) (h : RdAt w b s e) :
    Calls Try.prog 114 #[.pointer (some ⟨b, 0, none⟩), .int .i64 k] w fun x w' => x = .returned (.int .u64 (rdNum s e k).1) ∧ RdAt w' b (rdNum s e k).2.1 (rdNum s e k).2.2 ∧ Ch b w w' := by
  obtain ⟨t, s', e', hq⟩ : ∃ t s' e', rdTake s e k = (t, s', e') := ⟨_, _, _, rfl⟩
  have hz := (rdTake_size s e k).2.2
  have hT := oct_take b s hs e k w h
  have hN : rdNum s e k = (Oct.num t.data.toList, s', e') := by unfold rdNum; rw [hq]
  rw [hN]
  rw [hq] at hz hT
  have HT := Lib.hid hT
  have hts : t.size ≤ 8 := by simp only at hz; omega
  clear hz hq hT hN
  go_enter Try.func114, Try.ntmps114
  go_wp2_with (go_at_call 111; refine HT.out.mono ?_; rintro x w1 ⟨rfl, hr, hc⟩)
  have HR := Lib.hid (And.intro hr hc)
  clear hr hc
  go_loop [5, 13] (fun x i => ∃ j : Nat, j ≤ t.size ∧ i = .int .i64 j ∧ x = .int .u64 (Oct.num (t.data.toList.take j) : Nat)) (fun _ i => t.size - (intOf i).toNat)
  case atStart => exact ⟨0, by omega, rfl, rfl⟩
  case round =>
    obtain ⟨j, hj, rfl, rfl⟩ := hrel
    have HT := fun h => Lib.hid (Oct.num_take t j h)
    by_cases hlt : j < t.size
    · have hl := Oct.num_take_lt t j (by omega)
      generalize Oct.num (t.data.toList.take j) = m at *
      go_wp2
      go_round
      case rel => exact ⟨j + 1, by omega, by go_num, by rw [(HT hlt).out, Oct.or_eq m hl]⟩
      case measure => simp [intOf]; omega
    · obtain rfl : j = t.size := by omega
      go_wp2
      go_ret
      exact ⟨ret_int (by rw [List.take_of_length_le (by simp)]), HR.out.1, HR.out.2⟩
theorem Oct.conv8 (n : Nat) (h : n < 256) : IntKind.u8.wrap (n : Int) = (n : Int) := by rw [IntKind.wrap_u8']; omega
theorem Oct.conv16 (n : Nat) (h : n < 65536) : IntKind.u16.wrap (n : Int) = (n : Int) := by rw [IntKind.wrap_u16]; omega
theorem Oct.conv32 (n : Nat) (h : n < 4294967296) : IntKind.u32.wrap (n : Int) = (n : Int) := by rw [IntKind.wrap_u32']; omega
theorem oct_rdone (b : Nat) (s : ByteArray) (hs : s.size ≤ maxLen) (e : Int) (w : World) (h : RdAt w b s e) :
    Calls Try.prog 110 #[.pointer (some ⟨b, 0, none⟩)] w fun x w' => x = .returned (.int .u8 (rdNum s e 1).1) ∧ RdAt w' b (rdNum s e 1).2.1 (rdNum s e 1).2.2 ∧ Ch b w w' := by
  have HT := Lib.hid (oct_number b s hs e 1 (by omega) w h)
  have hlt := rdNum_lt s e 1
  generalize rdNum s e 1 = q at *
  have hcv := Oct.conv8 q.1 (by omega)
  clear hlt
  go_enter Try.func110, Try.ntmps110
  go_wp2_with (go_at_call 114; refine HT.out.mono ?_; rintro x w1 ⟨rfl, hr, hc⟩)
  go_ret
  exact ⟨rfl, hr, hc⟩
theorem oct_rdtwo (b : Nat) (s : ByteArray) (hs : s.size ≤ maxLen) (e : Int) (w : World) (h : RdAt w b s e) :
    Calls Try.prog 97 #[.pointer (some ⟨b, 0, none⟩)] w fun x w' => x = .returned (.int .u16 (rdNum s e 2).1) ∧ RdAt w' b (rdNum s e 2).2.1 (rdNum s e 2).2.2 ∧ Ch b w w' := by
  have HT := Lib.hid (oct_number b s hs e 2 (by omega) w h)
  have hlt := rdNum_lt s e 2
  generalize rdNum s e 2 = q at *
  have hcv := Oct.conv16 q.1 (by omega)
  clear hlt
  go_enter Try.func97, Try.ntmps97
  go_wp2_with (go_at_call 114; refine HT.out.mono ?_; rintro x w1 ⟨rfl, hr, hc⟩)
  go_ret
  exact ⟨rfl, hr, hc⟩
theorem oct_rdfour (b : Nat) (s : ByteArray) (hs : s.size ≤ maxLen) (e : Int) (w : World) (h : RdAt w b s e) :
    Calls Try.prog 78 #[.pointer (some ⟨b, 0, none⟩)] w fun x w' => x = .returned (.int .u32 (rdNum s e 4).1) ∧ RdAt w' b (rdNum s e 4).2.1 (rdNum s e 4).2.2 ∧ Ch b w w' := by
  have HT := Lib.hid (oct_number b s hs e 4 (by omega) w h)
  have hlt := rdNum_lt s e 4
  generalize rdNum s e 4 = q at *
  have hcv := Oct.conv32 q.1 (by omega)
  clear hlt
  go_enter Try.func78, Try.ntmps78
  go_wp2_with (go_at_call 114; refine HT.out.mono ?_; rintro x w1 ⟨rfl, hr, hc⟩)
  go_ret
  exact ⟨rfl, hr, hc⟩
end Go.Proofs.Ytmpmfgkabjedpaa
namespace Go.Proofs.Ytmpmfgkabjedpaa
open Go.RowKit
set_option linter.unusedVariables false
set_option linter.unusedSimpArgs false
set_option maxHeartbeats 400000
/-- an int's range -/
def I64 (m : Int) : Prop := -9223372036854775808 ≤ m ∧ m < 9223372036854775808
theorem I64.of {m : Int} (h : (Lit.int .i64 m).wf = true) : I64 m := by
  have : -9223372036854775808 ≤ m ∧ m ≤ 9223372036854775807 := by simpa [Lit.wf, IntKind.min, IntKind.max, IntKind.signed, IntKind.bits] using h
  exact ⟨this.1, by omega⟩
theorem I64.nat {n : Nat} (h : n < 4611686018427387904) : I64 (n : Int) := ⟨by omega, by omega⟩
theorem wrap_u64_i64 (m : Int) (h0 : 0 ≤ m) (h : I64 m) : IntKind.u64.wrap m = m := by
  have h2 := h.2
  have := wrap_u64_of m.toNat (by unfold U64; omega)
  rwa [Int.toNat_of_nonneg h0] at this
end Go.Proofs.Ytmpmfgkabjedpaa
namespace Go.Proofs.Ytmpmfgkabjedpaa
open Go.RowKit
set_option linter.unusedVariables false
set_option linter.unusedSimpArgs false
set_option maxHeartbeats 400000
def Oct.text (s : ByteArray) : ByteArray := B (Oct.be s.size 4) ++ s
theorem Oct.text_size (s : ByteArray) : (Oct.text s).size = s.size + 4 := by
  unfold Oct.text
  rw [ByteArray.size_append, B_size, Oct.be_length]; omega
theorem Oct.u16' (n : Nat) (h : n < 65536) : IntKind.u64.wrap (n : Int) = (n : Int) := wrap_u64_of n (by unfold U64; omega)
theorem Oct.u32' (n : Nat) (h : n < 4294967296) : IntKind.u64.wrap (n : Int) = (n : Int) := wrap_u64_of n (by unfold U64; omega)
theorem oct_one (n : Nat) (hn : n < 256) (w : World) :
    Calls Try.prog 108 #[.int .u8 n] w fun x w' => x = .returned (.string (B (Oct.be n 1))) ∧ Gr w w' := by
  have HT := Lib.hid (oct_big n (by unfold U64; omega) 1 (by omega) w)
  have c1 := Oct.u16' n (by omega)
  clear hn
  go_enter Try.func108, Try.ntmps108
  go_wp2_with (go_at_call 113; refine HT.out.mono ?_; rintro x w1 ⟨rfl, hg⟩)
  go_ret
  exact ⟨rfl, hg⟩
theorem oct_two (n : Nat) (hn : n < 65536) (w : World) :
    Calls Try.prog 89 #[.int .u16 n] w fun x w' => x = .returned (.string (B (Oct.be n 2))) ∧ Gr w w' := by
  have HT := Lib.hid (oct_big n (by unfold U64; omega) 2 (by omega) w)
  have c1 := Oct.u16' n hn
  clear hn
  go_enter Try.func89, Try.ntmps89
  go_wp2_with (go_at_call 113; refine HT.out.mono ?_; rintro x w1 ⟨rfl, hg⟩)
  go_ret
  exact ⟨rfl, hg⟩
theorem oct_four (n : Nat) (hn : n < 4294967296) (w : World) :
    Calls Try.prog 75 #[.int .u32 n] w fun x w' => x = .returned (.string (B (Oct.be n 4))) ∧ Gr w w' := by
  have HT := Lib.hid (oct_big n (by unfold U64; omega) 4 (by omega) w)
  have c1 := Oct.u32' n hn
  clear hn
  go_enter Try.func75, Try.ntmps75
  go_wp2_with (go_at_call 113; refine HT.out.mono ?_; rintro x w1 ⟨rfl, hg⟩)
  go_ret
  exact ⟨rfl, hg⟩
theorem oct_over (s : ByteArray) (w : World) :
    Calls Try.prog 96 #[.string s] w fun x w' => x = .returned (.pointer (some ⟨w.heap.size, 0, none⟩)) ∧ RdAt w' w.heap.size s 0 ∧ Gr w w' := by
  go_enter Try.func96, Try.ntmps96
  go_wp2
  go_ret
  exact ⟨rfl, RdAt.new _ _ _ _, (Gr.refl w).alloc _⟩
end Go.Proofs.Ytmpmfgkabjedpaa
