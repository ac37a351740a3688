/- The law OctetBack, walked. -/
import Derived.Test.YtlkkgnidcgochaaOctWritesWalk
import Derived.Test.YtlkkgnidcgochaaOctParse
namespace Go.Proofs.Ytlkkgnidcgochaa
open Go.RowKit
set_option linter.unusedVariables false
set_option linter.unusedSimpArgs false
theorem nat_u8 {a : Int} (h : (Lit.int .u8 a).wf = true) : ∃ n : Nat, a = n ∧ n < 256 := by
  have : 0 ≤ a ∧ a ≤ 255 := by simpa [Lit.wf, IntKind.min, IntKind.max, IntKind.signed, IntKind.bits] using h
  exact ⟨a.toNat, by omega, by omega⟩
theorem nat_u16 {a : Int} (h : (Lit.int .u16 a).wf = true) : ∃ n : Nat, a = n ∧ n < 65536 := by
  have : 0 ≤ a ∧ a ≤ 65535 := by simpa [Lit.wf, IntKind.min, IntKind.max, IntKind.signed, IntKind.bits] using h
  exact ⟨a.toNat, by omega, by omega⟩
theorem nat_u32' {a : Int} (h : (Lit.int .u32 a).wf = true) : ∃ n : Nat, a = n ∧ n < 4294967296 := by
  have : 0 ≤ a ∧ a ≤ 4294967295 := by simpa [Lit.wf, IntKind.min, IntKind.max, IntKind.signed, IntKind.bits] using h
  exact ⟨a.toNat, by omega, by omega⟩
set_option maxHeartbeats 1000000 in
theorem walk_OctetBack (a : Int) (wa : (Lit.int .u8 a).wf = true) (b : Int) (wb : (Lit.int .u16 b).wf = true) (c : Int) (wc : (Lit.int .u32 c).wf = true) (d : Int) (wd : (Lit.int .u64 d).wf = true) (s : ByteArray) (hs : s.size ≤ maxLen) (w : World) :
    Calls Try.prog 8 #[.int .u8 a, .int .u16 b, .int .u32 c, .int .u64 d, .string s] w fun e w' => e = .returned (.bool true) ∧ Gr w w' := by
  obtain ⟨n1, rfl, h1⟩ := nat_u8 wa
  obtain ⟨n2, rfl, h2⟩ := nat_u16 wb
  obtain ⟨n4, rfl, h4⟩ := nat_u32' wc
  obtain ⟨n8, rfl, h8⟩ := nat_u64 wd
  obtain ⟨l, rfl⟩ := B_of s
  rw [B_size] at hs
  have hm := hs
  unfold maxLen at hm
  have hz := B_size l
  by_cases hlen : 2000 < l.length
  · go_enter Try.func8, Try.ntmps8
    go_wp2_with (go_at_call 21; refine (law03_awake _).mono ?_; rintro e w1 ⟨rfl, hb⟩)
    go_ret
    exact ⟨rfl, hb⟩
  · have H8 := Lib.hid h8
    clear h8 wa wb wc wd
    have hT := fun w1 => Lib.hid (oct_text (B l) (by rw [B_size]; omega) w1)
    unfold Oct.text at hT
    rw [Oct.text_B] at hT
    have z1 := B_be_size n1 1
    have z2 := B_be_size n2 2
    have z4 := B_be_size n4 4
    have z8 := B_be_size n8 8
    have zt : (B (Oct.be l.length 4 ++ l)).size = l.length + 4 := by rw [B_size, List.length_append, Oct.be_length]; omega
    go_enter Try.func8, Try.ntmps8
    go_wp2_with (first
      | (go_at_call 21; refine (law03_awake _).mono ?_; rintro e w1 ⟨rfl, hb1⟩)
      | (go_at_call 22; refine (oct_one n1 h1 _).mono ?_; rintro e w2 ⟨rfl, hb2⟩)
      | (go_at_call 27; refine (hT _).out.mono ?_; rintro e w3 ⟨rfl, hb3⟩)
      | (go_at_call 24; refine (oct_two n2 h2 _).mono ?_; rintro e w4 ⟨rfl, hb4⟩)
      | (go_at_call 25; refine (oct_four n4 h4 _).mono ?_; rintro e w6 ⟨rfl, hb6⟩)
      | (go_at_call 26; refine (oct_eight n8 H8.out _).mono ?_; rintro e w8 ⟨rfl, hb8⟩))
    have HC : Hid (B (Oct.be n1 1) ++ B (Oct.be l.length 4 ++ l) ++ B (Oct.be n2 2) ++ B (Oct.be n4 4) ++ B (Oct.be n8 8) = B (Oct.be n1 1 ++ (Oct.be l.length 4 ++ (l ++ (Oct.be n2 2 ++ (Oct.be n4 4 ++ (Oct.be n8 8 ++ []))))))) := by
      unfold Hid
      simp only [B_app, List.append_assoc, List.append_nil]
    have HG : Hid (Gr w w8) := hb1.trans (hb2.trans (hb3.trans (hb4.trans (hb6.trans hb8))))
    clear hb1 hb2 hb3 hb4 hb6 hb8
    have T1 := Lib.hid (rdNum_ahead n1 1 (Oct.be l.length 4 ++ (l ++ (Oct.be n2 2 ++ (Oct.be n4 4 ++ (Oct.be n8 8 ++ []))))) (by omega))
    have TT := Lib.hid (rdText_ahead l (Oct.be n2 2 ++ (Oct.be n4 4 ++ (Oct.be n8 8 ++ []))) (by omega) l.length (Int.le_refl _))
    have T2 := Lib.hid (rdNum_ahead n2 2 (Oct.be n4 4 ++ (Oct.be n8 8 ++ [])) (by omega))
    have T4 := Lib.hid (rdNum_ahead n4 4 (Oct.be n8 8 ++ []) (by omega))
    have T8 := Lib.hid (rdNum_ahead n8 8 [] (by have := H8.out; unfold U64 at this; omega))
    have s1 : (B (Oct.be n1 1 ++ (Oct.be l.length 4 ++ (l ++ (Oct.be n2 2 ++ (Oct.be n4 4 ++ (Oct.be n8 8 ++ []))))))).size ≤ maxLen := by rw [B_size]; unfold maxLen; simp only [List.length_append, Oct.be_length, List.length_nil]; omega
    have sT : (B (Oct.be l.length 4 ++ (l ++ (Oct.be n2 2 ++ (Oct.be n4 4 ++ (Oct.be n8 8 ++ [])))))).size ≤ maxLen := by rw [B_size]; unfold maxLen; simp only [List.length_append, Oct.be_length, List.length_nil]; omega
    have s2 : (B (Oct.be n2 2 ++ (Oct.be n4 4 ++ (Oct.be n8 8 ++ [])))).size ≤ maxLen := by rw [B_size]; unfold maxLen; simp only [List.length_append, Oct.be_length, List.length_nil]; omega
    have s4 : (B (Oct.be n4 4 ++ (Oct.be n8 8 ++ []))).size ≤ maxLen := by rw [B_size]; unfold maxLen; simp only [List.length_append, Oct.be_length, List.length_nil]; omega
    have s8 : (B (Oct.be n8 8 ++ [])).size ≤ maxLen := by rw [B_size]; unfold maxLen; simp only [List.length_append, Oct.be_length, List.length_nil]; omega
    rw [HC.out]
    have hI : I64 (l.length : Int) := I64.nat (by omega)
    generalize hR4 : Oct.be n8 8 ++ [] = R4 at *
    generalize hR3 : Oct.be n4 4 ++ R4 = R3 at *
    generalize hR2 : Oct.be n2 2 ++ R3 = R2 at *
    generalize hR1 : Oct.be l.length 4 ++ (l ++ R2) = R1 at *
    generalize hR0 : Oct.be n1 1 ++ R1 = R0 at *
    clear hR0 hR1 hR2 hR3 hR4 HC z1 z2 z4 z8 zt hT
    refine (oct_over (B R0) _).mono ?_
    rintro e w9 ⟨rfl, hr, hg⟩
    have HG9 : Hid (Gr w w9 ∧ w.heap.size ≤ w8.heap.size) := ⟨HG.out.trans hg, HG.out.size⟩
    clear hg HG
    generalize w8.heap.size = g at *
    simp only []
    go_wp2_with (first
      | (go_at_call 30; refine (oct_rdone g (B R0) s1 0 _ hr).mono ?_; rw [T1.out]; rintro e x1 ⟨rfl, hr1, hc1⟩)
      | (go_at_call 31; refine (oct_rdtext g (B R1) sT 0 l.length hI _ hr1).mono ?_; rw [TT.out]; rintro e x2 ⟨rfl, hr2, hc2⟩)
      | (go_at_call 32; refine (oct_rdtwo g (B R2) s2 0 _ hr2).mono ?_; rw [T2.out]; rintro e x3 ⟨rfl, hr3, hc3⟩)
      | (go_at_call 33; refine (oct_rdfour g (B R3) s4 0 _ hr3).mono ?_; rw [T4.out]; rintro e x4 ⟨rfl, hr4, hc4⟩)
      | (go_at_call 34; refine (oct_rdeight g (B R4) s8 0 _ hr4).mono ?_; rw [T8.out]; rintro e x5 ⟨rfl, hr5, hc5⟩)
      | (go_at_call 35; refine (oct_end g (B []) 0 _ hr5).mono ?_; rw [show rdEnd (B []) 0 = 0 from rfl]; rintro e x6 ⟨rfl, rfl⟩))
    go_ret
    exact ⟨rfl, (hc1.trans (hc2.trans (hc3.trans (hc4.trans hc5)))).gr HG9.out.1 HG9.out.2⟩
end Go.Proofs.Ytlkkgnidcgochaa
