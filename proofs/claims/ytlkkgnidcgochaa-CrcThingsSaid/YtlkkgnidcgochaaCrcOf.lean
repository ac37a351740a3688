/- Layer 1: a sum without a table, sums of texts, the chapter's example. -/
import Derived.Test.YtlkkgnidcgochaaCrcAdd
namespace Go.Proofs.Ytlkkgnidcgochaa
open Go.RowKit
theorem Crc.zsize : Try.zeroCells25.size = (Crc.tab Crc.byt).size := by rw [Crc.tab_zero, Crc.tab_size, Crc.tab_size]
set_option maxRecDepth 100000 in
set_option maxHeartbeats 400000 in
theorem crc_add_nil (n : Nat) (hn : n < 4294967296) (s : ByteArray) (hs : s.size ≤ maxLen) (w : World) :
    Calls Try.prog 17 #[.pointer none, .int .u32 n, .string s] w fun e w' => e = .returned (.int .u32 (Crc.add Crc.byt n s.data.toList : Nat)) ∧ Gr w w' := by
  unfold maxLen at hs
  have hz := Lib.hid Crc.zsize
  go_enter Try.func17, Try.ntmps17
  go_wp2_with (first
    | (go_at_call 14; refine (crc_make _).mono ?_; rintro e w1 ⟨rfl, hb⟩)
    | ((with_reducible show wpList _ _ _ (⟨_, .store _ _ _, _, _, _, _⟩ :: _) _ _); (refine wpList_store_new rfl 25 (.tmp 7) (.tmp 11) rfl (Crc.tab Crc.byt) rfl rfl 25 Try.zeroCells25 (sz25 _) hz.out (Crc.tab_one _) ?_)))
  have HB : Hid (Gr w (w1.alloc (.cells (Crc.tab Crc.byt) 25))) := hb.alloc _
  have HC : Hid (∀ i, i < 256 → (w1.alloc (.cells (Crc.tab Crc.byt) 25)).cell? ⟨w1.heap.size, i, none⟩ = some (.int .u32 (Crc.byt i : Nat))) := fun i hi => by
    rw [cell_of_row _ _ i _ _ _ (heap_alloc_last _ _), Crc.tab_get _ hi]
  clear hb
  generalize w1.heap.size = b at *
  generalize w1.alloc (.cells (Crc.tab Crc.byt) 25) = W at *
  go_loopw [1, 16] (fun x i wr => ∃ k q : Nat, k ≤ s.size ∧ i = .int .i64 k ∧ wr = W.drewN q ∧ x = .int .u32 (Crc.thru Crc.byt (4294967295 - n) (s.data.toList.take k) : Nat)) (fun _ i _ => s.size - (intOf i).toNat)
  case atStart => exact ⟨0, 0, by omega, rfl, rfl, by rw [Crc.flip_eq n hn]; simp only [List.take_zero, Crc.thru]⟩
  case round =>
    obtain ⟨k, q, hk, rfl, rfl, rfl⟩ := hrel
    have hl := Crc.thru_lt Crc.byt_tab (s := 4294967295 - n) (by omega) (s.data.toList.take k)
    have HT := fun h => Lib.hid (Crc.thru_take Crc.byt (4294967295 - n) s k h)
    have HA : Hid (Crc.add Crc.byt n s.data.toList = 4294967295 - Crc.thru Crc.byt (4294967295 - n) (s.data.toList)) := rfl
    generalize ht : Crc.thru Crc.byt (4294967295 - n) (s.data.toList.take k) = t at hl HT
    have Ht := Lib.hid ht
    clear ht
    by_cases hlt : k < s.size
    · have hj := Crc.ix_lt t s[k]
      have hcell : W.cell? ⟨b, t % 256 ^^^ s[k].toNat, none⟩ = some (.int .u32 (Crc.byt (t % 256 ^^^ s[k].toNat) : Nat)) := HC.out _ hj
      have h8 := Crc.ix8 t s[k]
      generalize hJ : t % 256 ^^^ s[k].toNat = j at *
      have HJ := Lib.hid hJ
      clear hJ
      go_wp2

      go_quiet (fail)
      go_wp2

      go_roundw
      case rel => exact ⟨k + 1, _, by omega, by go_num, rfl, by rw [Crc.rest_eq _ _ (Crc.byt_tab _ hj) hl, (HT hlt).out, HJ.out]⟩
      case measure => simp [intOf]; omega
    · obtain rfl : k = s.size := by omega
      go_wp2
      go_ret
      exact ⟨ret_int (by rw [HA.out]; rw [take_all] at Ht; rw [Ht.out, Crc.flip_eq t hl]), HB.out.drewN _⟩

/-- a table lies at the head of block b -/
def Crc.At (w : World) (b : Nat) (T : Nat → Nat) : Prop := ∀ i, i < 256 → w.cell? ⟨b, i, none⟩ = some (.int .u32 (T i : Nat))
theorem Crc.At.gr {w w' : World} {b : Nat} {T : Nat → Nat} (h : Crc.At w b T) (hb : Gr w w') : Crc.At w' b T :=
  fun i hi => hb.cells (h i hi)
theorem Crc.At.drewN {w : World} {b : Nat} {T : Nat → Nat} (h : Crc.At w b T) (q : Nat) : Crc.At (w.drewN q) b T := h
theorem Crc.At.new (w : World) (T : Nat → Nat) (t : TypeId) : Crc.At (w.alloc (.cells (Crc.tab T) t)) w.heap.size T := fun i hi => by
  rw [cell_of_row _ _ i _ _ _ (heap_alloc_last _ _), Crc.tab_get _ hi]

set_option maxHeartbeats 400000 in
theorem crc_of (T : Nat → Nat) (hT : ∀ i, i < 256 → T i < 4294967296) (b : Nat) (s : ByteArray) (hs : s.size ≤ maxLen) (w : World) (hc : Crc.At w b T) :
    Calls Try.prog 18 #[.pointer (some ⟨b, 0, none⟩), .string s] w fun e w' => e = .returned (.int .u32 (Crc.add T 0 s.data.toList : Nat)) ∧ Dr w w' := by
  go_enter Try.func18, Try.ntmps18
  go_wp2_with (go_at_call 17; refine (crc_add T hT b 0 (by decide) s hs w hc).mono ?_; rintro e w1 ⟨rfl, q, rfl⟩)
  go_ret
  exact ⟨rfl, q, rfl⟩
set_option maxHeartbeats 400000 in
theorem ref_of (s : ByteArray) (hs : s.size ≤ maxLen) (w : World) :
    Calls Try.prog 19 #[.string s] w fun e w' => e = .returned (.int .u32 (Crc.add Crc.byt 0 s.data.toList : Nat)) ∧ w = w' := by
  go_enter Try.func19, Try.ntmps19
  go_wp2_with (go_at_call 16; refine (ref_add 0 (by decide) s hs w).mono ?_; rintro e w1 ⟨rfl, rfl⟩)
  go_ret
  exact ⟨rfl, rfl⟩

theorem Crc.nine : Crc.add Crc.byt 0 [49, 50, 51, 52, 53, 54, 55, 56, 57] = 3421780262 := by decide +kernel
set_option maxRecDepth 100000 in
set_option maxHeartbeats 400000 in
theorem law01_awake (w : World) :
    Calls Try.prog 13 #[] w fun e w' => e = .returned (.bool true) ∧ Gr w w' := by
  have hz := Lib.hid Crc.zsize
  go_enter Try.func13, Try.ntmps13
  go_wp2_with (first
    | (go_at_call 14; refine (crc_make _).mono ?_; rintro e w1 ⟨rfl, hb⟩)
    | ((with_reducible show wpList _ _ _ (⟨_, .store _ _ _, _, _, _, _⟩ :: _) _ _); (refine wpList_store_new rfl 25 (.tmp 1) (.tmp 2) rfl (Crc.tab Crc.byt) rfl rfl 25 Try.zeroCells25 (sz25 _) hz.out (Crc.tab_one _) ?_))
    | (go_at_call 18; refine (crc_of Crc.byt Crc.byt_tab w1.heap.size _ (by decide) _ (Crc.At.new _ _ _)).mono ?_; rintro e w2 ⟨rfl, q, rfl⟩; rw [Crc.nine]))
  go_ret
  exact ⟨rfl, (hb.alloc _).drewN _⟩
end Go.Proofs.Ytlkkgnidcgochaa
