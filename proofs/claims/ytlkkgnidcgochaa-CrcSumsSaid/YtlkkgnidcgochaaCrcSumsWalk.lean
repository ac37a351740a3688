/- The law CrcSums, walked. -/
import Derived.Test.YtlkkgnidcgochaaCrcOf
namespace Go.Proofs.Ytlkkgnidcgochaa
open Go.RowKit
theorem of_u32 {a : Int} (h : (Lit.int .u32 a).wf = true) : ∃ n : Nat, a = n ∧ n < 4294967296 := by
  have : 0 ≤ a ∧ a ≤ 4294967295 := by simpa [Lit.wf, IntKind.min, IntKind.max, IntKind.signed, IntKind.bits] using h
  exact ⟨a.toNat, by omega, by omega⟩
set_option maxRecDepth 100000 in
set_option maxHeartbeats 1000000 in
theorem walk_CrcSums (a : Int) (wa : (Lit.int .u32 a).wf = true) (s : ByteArray) (hs : s.size ≤ maxLen) (w : World) :
    Calls Try.prog 3 #[.int .u32 a, .string s] w fun e w' => e = .returned (.bool true) ∧ Gr w w' := by
  obtain ⟨n, rfl, hn⟩ := of_u32 wa
  clear wa
  have hz := Lib.hid Crc.zsize
  have hm := hs
  unfold maxLen at hm
  by_cases hlen : 20000 < s.size
  · go_enter Try.func3, Try.ntmps3
    go_wp2_with (go_at_call 13; refine (law01_awake _).mono ?_; rintro e w1 ⟨rfl, hb⟩)
    go_ret
    exact ⟨rfl, hb⟩
  · go_enter Try.func3, Try.ntmps3
    go_wp2_with (first
      | (go_at_call 13; refine (law01_awake _).mono ?_; rintro e w1 ⟨rfl, hb⟩)
      | (go_at_call 14; refine (crc_make _).mono ?_; rintro e w2 ⟨rfl, hb2⟩)
      | ((with_reducible show wpList _ _ _ (⟨_, .store _ _ _, _, _, _, _⟩ :: _) _ _); (refine wpList_store_new rfl 25 (.tmp 5) (.tmp 14) rfl (Crc.tab Crc.byt) rfl rfl 25 Try.zeroCells25 (sz25 _) hz.out (Crc.tab_one _) ?_)))
    have HB : Hid (Gr w (w2.alloc (.cells (Crc.tab Crc.byt) 25))) := (hb.trans hb2).alloc _
    have HC := Lib.hid (Crc.At.new w2 Crc.byt 25)
    clear hb hb2
    generalize w2.heap.size = b at *
    generalize w2.alloc (.cells (Crc.tab Crc.byt) 25) = W at *
    go_loopw [15] (fun i wr => ∃ k : Nat, k ≤ 256 ∧ i = .int .i64 k ∧ Hid (Dr W wr)) (fun i _ => 256 - (intOf i).toNat)
    case atStart => exact ⟨0, by omega, rfl, Dr.refl _⟩
    case round =>
      obtain ⟨k, hk, rfl, HQ⟩ := hrel
      by_cases hlt : k < 256
      · have hcell : wr.cell? ⟨b, k, none⟩ = some (.int .u32 (Crc.byt k : Nat)) := HQ.out.gr.cells (HC.out k hlt)
        have hwr : IntKind.u32.wrap (k : Int) = (k : Int) := by rw [IntKind.wrap_u32']; omega
        go_wp2
        go_quiet ((go_at_call 15; exact Calls.quiet_of_same ((ref_byte k (by omega) _).mono fun _ _ h => ⟨h.1, h.2.symm⟩)))
        go_wp2
        go_roundw
        case rel => exact ⟨k + 1, by omega, by go_num, HQ.out.drewN _⟩
        case measure => simp [intOf]; omega
      · obtain rfl : k = 256 := by omega
        have HA : Crc.At wr b Crc.byt := HC.out.gr HQ.out.gr
        have HBr : Gr w wr := HB.out.trans HQ.out.gr
        have HX := Lib.hid (And.intro HA HBr)
        clear HA HBr
        go_wp2_with (first
          | (go_at_call 16; refine (ref_add n hn s hs _).mono ?_; rintro e w4 ⟨rfl, rfl⟩)
          | (go_at_call_of 17 (Value.pointer (some (Addr.mk b 0 none))); refine (crc_add Crc.byt Crc.byt_tab b n hn s hs _ HX.out.1).mono ?_; rintro e w5 ⟨rfl, q5, rfl⟩))
        refine (crc_add_nil n hn s hs _).mono ?_
        rintro e w6 ⟨rfl, hb6⟩
        have HY : Hid (Crc.At w6 b Crc.byt ∧ Gr w w6) := ⟨(HX.out.1.drewN q5).gr hb6, (HX.out.2.drewN q5).trans hb6⟩
        clear hb6
        simp only []
        go_wp2_with (first
          | (go_at_call 18; refine (crc_of Crc.byt Crc.byt_tab b s hs _ HY.out.1).mono ?_; rintro e w7 ⟨rfl, q7, rfl⟩)
          | (go_at_call 19; refine (ref_of s hs _).mono ?_; rintro e w8 ⟨rfl, rfl⟩))
        go_ret
        exact ⟨rfl, HY.out.2.drewN _⟩
end Go.Proofs.Ytlkkgnidcgochaa
