/- The law OctetWrites, walked. -/
import Derived.Test.YtlkkgnidcgochaaOctAwake
namespace Go.Proofs.Ytlkkgnidcgochaa
open Go.RowKit
set_option linter.unusedVariables false
set_option linter.unusedSimpArgs false
theorem nat_u64 {a : Int} (h : (Lit.int .u64 a).wf = true) : ∃ n : Nat, a = n ∧ U64 n := by
  have : 0 ≤ a ∧ a ≤ 18446744073709551615 := by simpa [Lit.wf, IntKind.min, IntKind.max, IntKind.signed, IntKind.bits] using h
  exact ⟨a.toNat, by omega, by unfold U64; omega⟩
set_option maxHeartbeats 1000000 in
theorem walk_OctetWrites (a : Int) (wa : (Lit.int .u64 a).wf = true) (s : ByteArray) (hs : s.size ≤ maxLen) (w : World) :
    Calls Try.prog 7 #[.int .u64 a, .string s] w fun e w' => e = .returned (.bool true) ∧ Gr w w' := by
  obtain ⟨n, rfl, hn⟩ := nat_u64 wa
  clear wa
  have hm := hs
  unfold maxLen at hm
  by_cases hlen : 3000 < s.size
  · go_enter Try.func7, Try.ntmps7
    go_wp2_with (go_at_call 21; refine (law03_awake _).mono ?_; rintro e w1 ⟨rfl, hb⟩)
    go_ret
    exact ⟨rfl, hb⟩
  · have e1 : IntKind.u8.wrap (n : Int) = ((n % 256 : Nat) : Int) := by rw [IntKind.wrap_u8']; rfl
    have e2 : IntKind.u16.wrap (n : Int) = ((n % 65536 : Nat) : Int) := by rw [IntKind.wrap_u16]; rfl
    have e4 : IntKind.u32.wrap (n : Int) = ((n % 4294967296 : Nat) : Int) := by rw [IntKind.wrap_u32']; rfl
    have f1 : (n : Int) % 256 = ((n % 256 : Nat) : Int) := rfl
    have f2 : (n : Int) % 65536 = ((n % 65536 : Nat) : Int) := rfl
    have f4 : (n : Int) % 4294967296 = ((n % 4294967296 : Nat) : Int) := rfl
    have l1 : n % 256 < 256 := by omega
    have l2 : n % 65536 < 65536 := by omega
    have l4 : n % 4294967296 < 4294967296 := by omega
    generalize n % 256 = a1 at *
    generalize n % 65536 = a2 at *
    generalize n % 4294967296 = a4 at *
    have HN := Lib.hid hn
    clear hn
    go_enter Try.func7, Try.ntmps7
    go_wp2_with (first
      | (go_at_call 21; refine (law03_awake _).mono ?_; rintro e w1 ⟨rfl, hb1⟩)
      | (go_at_call 22; refine (oct_one a1 l1 _).mono ?_; rintro e w2 ⟨rfl, hb2⟩)
      | (go_at_call_of 23 (Value.int .u64 (a1 : Int)); refine (ref_big a1 (by unfold U64; omega) 1 (by omega) _).mono ?_; rintro e w3 ⟨rfl, hb3⟩)
      | (go_at_call 24; refine (oct_two a2 l2 _).mono ?_; rintro e w4 ⟨rfl, hb4⟩)
      | (go_at_call_of 23 (Value.int .u64 (a2 : Int)); refine (ref_big a2 (by unfold U64; omega) 2 (by omega) _).mono ?_; rintro e w5 ⟨rfl, hb5⟩)
      | (go_at_call 25; refine (oct_four a4 l4 _).mono ?_; rintro e w6 ⟨rfl, hb6⟩)
      | (go_at_call_of 23 (Value.int .u64 (a4 : Int)); refine (ref_big a4 (by unfold U64; omega) 4 (by omega) _).mono ?_; rintro e w7 ⟨rfl, hb7⟩)
      | (go_at_call 26; refine (oct_eight n HN.out _).mono ?_; rintro e w8 ⟨rfl, hb8⟩)
      | (go_at_call_of 23 (Value.int .u64 (n : Int)); refine (ref_big n HN.out 8 (by omega) _).mono ?_; rintro e w9 ⟨rfl, hb9⟩)
      | (go_at_call 27; refine (oct_text s (by omega) _).mono ?_; rintro e w10 ⟨rfl, hb10⟩)
      | (go_at_call 28; refine (ref_text s (by omega) _).mono ?_; rintro e w11 ⟨rfl, hb11⟩))
    go_ret
    exact ⟨rfl, hb1.trans (hb2.trans (hb3.trans (hb4.trans (hb5.trans (hb6.trans (hb7.trans (hb8.trans (hb9.trans (hb10.trans hb11)))))))))⟩
end Go.Proofs.Ytlkkgnidcgochaa
