/- Layer 3: the program's reader, walked: numbers and texts. -/
import Derived.Test.YtmpmfgkabjedpaaOctTake
import Derived.Test.YtmpmfgkabjedpaaOctBig
namespace Go.Proofs.Ytmpmfgkabjedpaa
open Go.RowKit
set_option linter.unusedVariables false
set_option linter.unusedSimpArgs false
set_option maxHeartbeats 400000
theorem Oct.num_take (t : ByteArray) (k : Nat) (h : k < t.size) : Oct.num (t.data.toList.take (k + 1)) = Oct.num (t.data.toList.take k) * 256 + t[k].toNat := by
  rw [List.take_succ_eq_append_getElem (by simpa using h), Oct.num_snoc]; rfl
theorem Oct.num_take_lt (t : ByteArray) (k : Nat) (hk : k < 8) : Oct.num (t.data.toList.take k) < 72057594037927936 := by
  refine Nat.lt_of_lt_of_le (Oct.num_lt _) ?_
  have : (t.data.toList.take k).length ≤ 7 := Nat.le_trans (List.length_take_le _ _) (by omega)
  exact Nat.le_trans (Nat.pow_le_pow_right (by omega) this) (by decide)
theorem Oct.or_eq (m : Nat) (hm : m < 72057594037927936) (b : UInt8) : bits .or .u64 ((m : Int) * 256) (IntKind.u64.wrap (b.toNat : Int)) = ((m * 256 + b.toNat : Nat) : Int) := by
  have hb := b.toNat_lt
  rw [wrap_u64_of b.toNat (by unfold U64; omega), show ((m : Int) * 256) = ((m * 256 : Nat) : Int) by omega, u64_or_nat _ _ (by omega) (by omega), nat_join 8 _ _ (by omega) hb]
theorem oct_number (b : Nat) (s : ByteArray) (hs : s.size ≤ maxLen) (e : Int) (k : Nat) (hk : k ≤ 8) (w : World) (h : RdAt w b s e) :
    Calls Try.prog 114 #[.pointer (some ⟨b, 0, none⟩), .int .i64 k] w fun x w' => x = .returned (.int .u64 (rdNum s e k).1) ∧ RdAt w' b (rdNum s e k).2.1 (rdNum s e k).2.2 ∧ Ch b w w' := by
  obtain ⟨t, s', e', hq⟩ : ∃ t s' e', rdTake s e k = (t, s', e') := ⟨_, _, _, rfl⟩
  have hz := (rdTake_size s e k).2.2
  have hT := oct_take b s hs e k w h
  have hN : rdNum s e k = (Oct.num t.data.toList, s', e') := by unfold rdNum; rw [hq]
  rw [hN]
  rw [hq] at hz hT
  have HT := Lib.hid hT
  have hts : t.size ≤ 8 := by simp only at hz; omega
  clear hz hq hT hN
  go_enter Try.func114, Try.ntmps114
  go_wp2_with (go_at_call 111; refine HT.out.mono ?_; rintro x w1 ⟨rfl, hr, hc⟩)
  have HR := Lib.hid (And.intro hr hc)
  clear hr hc
  go_loop [5, 13] (fun x i => ∃ j : Nat, j ≤ t.size ∧ i = .int .i64 j ∧ x = .int .u64 (Oct.num (t.data.toList.take j) : Nat)) (fun _ i => t.size - (intOf i).toNat)
  case atStart => exact ⟨0, by omega, rfl, rfl⟩
  case round =>
    obtain ⟨j, hj, rfl, rfl⟩ := hrel
    have HT := fun h => Lib.hid (Oct.num_take t j h)
    by_cases hlt : j < t.size
    · have hl := Oct.num_take_lt t j (by omega)
      generalize Oct.num (t.data.toList.take j) = m at *
      go_wp2
      go_round
      case rel => exact ⟨j + 1, by omega, by go_num, by rw [(HT hlt).out, Oct.or_eq m hl]⟩
      case measure => simp [intOf]; omega
    · obtain rfl : j = t.size := by omega
      go_wp2
      go_ret
      exact ⟨ret_int (by rw [List.take_of_length_le (by simp)]), HR.out.1, HR.out.2⟩
theorem Oct.conv8 (n : Nat) (h : n < 256) : IntKind.u8.wrap (n : Int) = (n : Int) := by rw [IntKind.wrap_u8']; omega
theorem Oct.conv16 (n : Nat) (h : n < 65536) : IntKind.u16.wrap (n : Int) = (n : Int) := by rw [IntKind.wrap_u16]; omega
theorem Oct.conv32 (n : Nat) (h : n < 4294967296) : IntKind.u32.wrap (n : Int) = (n : Int) := by rw [IntKind.wrap_u32']; omega
theorem oct_rdone (b : Nat) (s : ByteArray) (hs : s.size ≤ maxLen) (e : Int) (w : World) (h : RdAt w b s e) :
    Calls Try.prog 110 #[.pointer (some ⟨b, 0, none⟩)] w fun x w' => x = .returned (.int .u8 (rdNum s e 1).1) ∧ RdAt w' b (rdNum s e 1).2.1 (rdNum s e 1).2.2 ∧ Ch b w w' := by
  have HT := Lib.hid (oct_number b s hs e 1 (by omega) w h)
  have hlt := rdNum_lt s e 1
  generalize rdNum s e 1 = q at *
  have hcv := Oct.conv8 q.1 (by omega)
  clear hlt
  go_enter Try.func110, Try.ntmps110
  go_wp2_with (go_at_call 114; refine HT.out.mono ?_; rintro x w1 ⟨rfl, hr, hc⟩)
  go_ret
  exact ⟨rfl, hr, hc⟩
theorem oct_rdtwo (b : Nat) (s : ByteArray) (hs : s.size ≤ maxLen) (e : Int) (w : World) (h : RdAt w b s e) :
    Calls Try.prog 97 #[.pointer (some ⟨b, 0, none⟩)] w fun x w' => x = .returned (.int .u16 (rdNum s e 2).1) ∧ RdAt w' b (rdNum s e 2).2.1 (rdNum s e 2).2.2 ∧ Ch b w w' := by
  have HT := Lib.hid (oct_number b s hs e 2 (by omega) w h)
  have hlt := rdNum_lt s e 2
  generalize rdNum s e 2 = q at *
  have hcv := Oct.conv16 q.1 (by omega)
  clear hlt
  go_enter Try.func97, Try.ntmps97
  go_wp2_with (go_at_call 114; refine HT.out.mono ?_; rintro x w1 ⟨rfl, hr, hc⟩)
  go_ret
  exact ⟨rfl, hr, hc⟩
theorem oct_rdfour (b : Nat) (s : ByteArray) (hs : s.size ≤ maxLen) (e : Int) (w : World) (h : RdAt w b s e) :
    Calls Try.prog 78 #[.pointer (some ⟨b, 0, none⟩)] w fun x w' => x = .returned (.int .u32 (rdNum s e 4).1) ∧ RdAt w' b (rdNum s e 4).2.1 (rdNum s e 4).2.2 ∧ Ch b w w' := by
  have HT := Lib.hid (oct_number b s hs e 4 (by omega) w h)
  have hlt := rdNum_lt s e 4
  generalize rdNum s e 4 = q at *
  have hcv := Oct.conv32 q.1 (by omega)
  clear hlt
  go_enter Try.func78, Try.ntmps78
  go_wp2_with (go_at_call 114; refine HT.out.mono ?_; rintro x w1 ⟨rfl, hr, hc⟩)
  go_ret
  exact ⟨rfl, hr, hc⟩
end Go.Proofs.Ytmpmfgkabjedpaa
