/- The law CrcParts, walked. -/
import Derived.Test.YtlkkgnidcgochaaCrcOf
namespace Go.Proofs.Ytlkkgnidcgochaa
open Go.RowKit
set_option linter.unusedVariables false
theorem Crc.add_lt (T : Nat → Nat) (n : Nat) (l : List UInt8) : Crc.add T n l < 4294967296 := by
  unfold Crc.add
  exact Nat.lt_of_le_of_lt (Nat.sub_le _ _) (by decide)
theorem Crc.parts (l : List UInt8) (a b : Nat) :
    Crc.add Crc.byt (Crc.add Crc.byt (Crc.add Crc.byt 0 (l.take a)) ((l.drop a).take b)) ((l.drop (a + b)).take (l.length - (a + b))) = Crc.add Crc.byt 0 l := by
  have h0 : (0 : Nat) < 4294967296 := by decide
  rw [Crc.add_append Crc.byt_tab h0, Crc.add_append Crc.byt_tab h0]
  congr 1
  rw [show l.length - (a + b) = (l.drop (a + b)).length by simp, List.take_length, ← List.drop_drop, List.append_assoc, List.take_append_drop, List.take_append_drop]
set_option maxRecDepth 100000 in
set_option maxHeartbeats 1000000 in
theorem walk_CrcParts (s : ByteArray) (hs : s.size ≤ maxLen) (x : Int) (wx : (Lit.int .i64 x).wf = true) (y : Int) (wy : (Lit.int .i64 y).wf = true) (w : World) :
    Calls Try.prog 5 #[.string s, .int .i64 x, .int .i64 y] w fun e w' => e = .returned (.bool true) ∧ Gr w w' := by
  have hz := Lib.hid Crc.zsize
  have hm := hs
  unfold maxLen at hm
  by_cases hlen : 5000 < s.size
  · go_enter Try.func5, Try.ntmps5
    go_wp2_with (go_at_call 13; refine (law01_awake _).mono ?_; rintro e w1 ⟨rfl, hb⟩)
    go_ret
    exact ⟨rfl, hb⟩
  · obtain ⟨X, hX⟩ := wrap_u64_nat x
    obtain ⟨Y, hY⟩ := wrap_u64_nat y
    have hx := tmod_nat X s.size
    have la : X % (s.size + 1) ≤ s.size := by have := Nat.mod_lt X (show 0 < s.size + 1 by omega); omega
    generalize X % (s.size + 1) = a at hx la
    have hy := tmod_nat Y (s.size - a)
    have lb : Y % (s.size - a + 1) ≤ s.size - a := by have := Nat.mod_lt Y (show 0 < s.size - a + 1 by omega); omega
    generalize Y % (s.size - a + 1) = b at hy lb
    rw [show (((s.size - a : Nat)) : Int) = (s.size : Int) - a by omega] at hy
    clear wx wy
    go_enter Try.func5, Try.ntmps5
    go_wp2_with (first
      | (go_at_call 13; refine (law01_awake _).mono ?_; rintro e w1 ⟨rfl, hb⟩)
      | (go_at_call 14; refine (crc_make _).mono ?_; rintro e w2 ⟨rfl, hb2⟩)
      | ((with_reducible show wpList _ _ _ (⟨_, .store _ _ _, _, _, _, _⟩ :: _) _ _); (refine wpList_store_new rfl 25 (.tmp 9) (.tmp 35) rfl (Crc.tab Crc.byt) rfl rfl 25 Try.zeroCells25 (sz25 _) hz.out (Crc.tab_one _) ?_)))
    have HX : Hid (Crc.At (w2.alloc (.cells (Crc.tab Crc.byt) 25)) w2.heap.size Crc.byt ∧ Gr w (w2.alloc (.cells (Crc.tab Crc.byt) 25))) := ⟨Crc.At.new _ _ _, (hb.trans hb2).alloc _⟩
    clear hb hb2
    generalize w2.heap.size = g at *
    generalize w2.alloc (.cells (Crc.tab Crc.byt) 25) = W at *
    have hl1 : (s.extract 0 a).size ≤ maxLen := by rw [ByteArray.size_extract]; unfold maxLen; omega
    have hl2 : (s.extract a (a + b)).size ≤ maxLen := by rw [ByteArray.size_extract]; unfold maxLen; omega
    have hl3 : (s.extract (a + b) s.size).size ≤ maxLen := by rw [ByteArray.size_extract]; unfold maxLen; omega
    have e1 : ((a : Int) + (b : Int)).toNat = a + b := by omega
    have e2 : (a : Int) + (b : Int) ≤ (s.size : Int) := by omega
    have e3 : 0 ≤ (a : Int) + (b : Int) := by omega
    have e4 : (a : Int) ≤ (a : Int) + (b : Int) := by omega
    go_quiet ((first
      | (go_at_call 18; exact Calls.quiet_of (crc_of Crc.byt Crc.byt_tab g _ (by assumption) _ (HX.out.1.drewN _)))
      | (go_at_call 17; exact Calls.quiet_of (crc_add Crc.byt Crc.byt_tab g _ (Crc.add_lt _ _ _) _ (by assumption) _ (HX.out.1.drewN _)))))
    go_wp2
    go_ret
    exact ⟨ret_bool (by show ((_ : Int) == _) = true; have := Crc.parts s.data.toList a b; rw [show s.data.toList.length = s.size from rfl] at this; rw [this]; simp), HX.out.2.drewN _⟩
end Go.Proofs.Ytlkkgnidcgochaa
