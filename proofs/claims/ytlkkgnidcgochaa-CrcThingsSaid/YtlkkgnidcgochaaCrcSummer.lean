/- Layer 1: things summed by their bytes. -/
import Derived.Test.YtlkkgnidcgochaaCrcOf
import Derived.Test.YtlkkgnidcgochaaOctBig
import Derived.Test.YtlkkgnidcgochaaOpen
import Derived.Test.YtlkkgnidcgochaaCrcPartsWalk
import Derived.Laws.EntriesVeiled
namespace Go.Proofs.Ytlkkgnidcgochaa
open Go.RowKit
set_option linter.unusedVariables false
set_option linter.unusedSimpArgs false
set_option maxRecDepth 100000
set_option maxHeartbeats 1000000
theorem crc_over_sf (p : Option Addr) (fn : Fn) (w : World) :
    Calls Try.prog 45 #[.pointer p, .func fn #[] #[]] w fun e w' => e = .returned (.agg #[.pointer p, .func fn #[] #[]]) ∧ Gr w w' := by
  go_enter Try.func45, Try.ntmps45
  go_wp2
  refine bodyPost_ret (results_cell_row rfl _ _ w.heap.size _ #[.pointer p, .func fn #[] #[]] (0, 0) (.struct _) rfl (heap_alloc_last _ _) Try.underlying71 rfl (by kernel_rfl)) rfl ⟨rfl, (Gr.refl w).alloc _⟩
theorem crc_over_sz (p : Option Addr) (w : World) :
    Calls Try.prog 45 #[.pointer p, .nilFunc] w fun e w' => e = .returned (.agg #[.pointer p, .nilFunc]) ∧ Gr w w' := by
  go_enter Try.func45, Try.ntmps45
  go_wp2
  refine bodyPost_ret (results_cell_row rfl _ _ w.heap.size _ #[.pointer p, .nilFunc] (0, 0) (.struct _) rfl (heap_alloc_last _ _) Try.underlying71 rfl (by kernel_rfl)) rfl ⟨rfl, (Gr.refl w).alloc _⟩
theorem crc_over_nf (p : Option Addr) (fn : Fn) (w : World) :
    Calls Try.prog 48 #[.pointer p, .func fn #[] #[]] w fun e w' => e = .returned (.agg #[.pointer p, .func fn #[] #[]]) ∧ Gr w w' := by
  go_enter Try.func48, Try.ntmps48
  go_wp2
  refine bodyPost_ret (results_cell_row rfl _ _ w.heap.size _ #[.pointer p, .func fn #[] #[]] (0, 0) (.struct _) rfl (heap_alloc_last _ _) Try.underlying74 rfl (by kernel_rfl)) rfl ⟨rfl, (Gr.refl w).alloc _⟩
theorem crc_idf (s : ByteArray) (w : World) :
    Calls Try.prog 46 #[.string s] w fun e w' => e = .returned (.string s) ∧ w = w' := by
  go_enter Try.func46, Try.ntmps46
  go_wp2
  go_ret
  exact ⟨rfl, rfl⟩
theorem crc_pair (n : Nat) (hn : n < 65536) (w : World) :
    Calls Try.prog 47 #[.int .u16 n] w fun e w' => e = .returned (.string (B (Oct.be n 2))) ∧ Gr w w' := by
  have hb := run_convert_bytes_back (P := Try.prog) (w.alloc (.cells #[.int .u8 ((n : Int) / 256), .int .u8 ((n : Int) % 256)] 5)) 36 9 5 ⟨w.heap.size, 0, none⟩ 2 (Oct.be n 2) Try.underlying36 Try.underlying5 Try.underlying9 (fun j hj => by
    rw [Oct.be_length] at hj
    rw [Addr.add_mid, Nat.zero_add, cell_of_row _ _ _ _ _ _ (heap_alloc_last _ _), Oct.be_get _ _ _ hj, UInt8.toNat_ofNat']
    match j, hj with
    | 0, _ => simp; omega
    | 1, _ => simp)
  rw [Oct.be_length] at hb
  have hb' : (convert 36 9 (.slice (some ⟨w.heap.size, 0, none⟩) 2 2)).run Try.prog (w.alloc (.cells #[.int .u8 ((n : Int) / 256), .int .u8 ((n : Int) % 256)] 5)) = .ok (.string (B (Oct.be n 2))) (w.alloc (.cells #[.int .u8 ((n : Int) / 256), .int .u8 ((n : Int) % 256)] 5)) := hb
  clear hb
  go_enter Try.func47, Try.ntmps47
  go_wp2
  go_ret
  exact ⟨rfl, (Gr.refl w).alloc _⟩


/-- the bytes of several texts, one behind the other -/
def flat (xs : List ByteArray) : List UInt8 := xs.flatMap fun s => s.data.toList
theorem Crc.flat_nil : Crc.add Crc.byt 0 (flat []) = 0 := by
  show 4294967295 - (4294967295 - 0) = 0
  omega
theorem Crc.add_flat (xs : List ByteArray) (k : Nat) (h : k < xs.length) : Crc.add Crc.byt (Crc.add Crc.byt 0 (flat (xs.take k))) xs[k].data.toList = Crc.add Crc.byt 0 (flat (xs.take (k + 1))) := by
  rw [Crc.add_append Crc.byt_tab (by decide), List.take_succ_eq_append_getElem h]
  unfold flat
  rw [List.flatMap_append]
  congr 2
  exact (List.flatMap_singleton _ _).symm
theorem crc_neq_s (w : World) : (binOp .neq 45 (.func (.func 46) #[] #[]) .nilFunc).run Try.prog w = .ok (.bool true) w := by kernel_rfl
theorem crc_all_s (b : Nat) (A : Option Addr) (cap : Nat) (xs : List ByteArray) (hcap : xs.length ≤ cap) (hcm : cap ≤ maxLen) (hsz : ∀ x ∈ xs, x.size ≤ maxLen) (w : World) (hc : Crc.At w b Crc.byt) (hx : SliceAt w A 1 strCell xs) :
    Calls Try.prog 50 #[.agg #[.pointer (some ⟨b, 0, none⟩), .func (.func 46) #[] #[]], .slice A xs.length cap] w fun e w' => e = .returned (.int .u32 (Crc.add Crc.byt 0 (flat xs) : Nat)) ∧ Gr w w' := by
  unfold maxLen at hcm
  have HH := Lib.hid (And.intro hc (And.intro hx hsz))
  clear hc hx hsz
  have hneq := crc_neq_s
  go_enter Try.func50, Try.ntmps50
  go_wp2
  have hw0 := heap_alloc_last w (.cells #[.pointer (some ⟨b, 0, none⟩), .func (.func 46) #[] #[]] 71)
  have HW : Hid ((w.alloc (.cells #[.pointer (some ⟨b, 0, none⟩), .func (.func 46) #[] #[]] 71)).cell? ⟨w.heap.size, 0, none⟩ = some (.pointer (some ⟨b, 0, none⟩)) ∧ (w.alloc (.cells #[.pointer (some ⟨b, 0, none⟩), .func (.func 46) #[] #[]] 71)).cell? ⟨w.heap.size, 1, none⟩ = some (.func (.func 46) #[] #[]) ∧ Gr w (w.alloc (.cells #[.pointer (some ⟨b, 0, none⟩), .func (.func 46) #[] #[]] 71))) :=
    ⟨by rw [cell_of_row _ _ 0 _ _ _ hw0]; rfl, by rw [cell_of_row _ _ 1 _ _ _ hw0]; rfl, (Gr.refl w).alloc _⟩
  clear hw0
  generalize w.alloc (.cells #[.pointer (some ⟨b, 0, none⟩), .func (.func 46) #[] #[]] 71) = W at *
  generalize w.heap.size = g at *
  go_loopw [5, 10] (fun x i wr => ∃ k : Nat, k ≤ xs.length ∧ i = .int .i64 k ∧ Hid (Dr W wr) ∧ x = .int .u32 (Crc.add Crc.byt 0 (flat (xs.take k)) : Nat)) (fun _ i _ => xs.length - (intOf i).toNat)
  case atStart => exact ⟨0, by omega, rfl, Dr.refl _, by rw [List.take_zero, Crc.flat_nil]; rfl⟩
  case round =>
    obtain ⟨k, hk, rfl, HD, rfl⟩ := hrel
    by_cases hlt : k < xs.length
    · have HS := Lib.hid (Crc.add_flat xs k hlt)
      have hl := Crc.add_lt Crc.byt 0 (flat (xs.take k))
      generalize Crc.add Crc.byt 0 (flat (xs.take k)) = t at *
      rcases HH.out.2.1 with h0 | ⟨a, off, rfl, hcell⟩
      · subst h0; simp at hlt
      · have hz := HH.out.2.2 xs[k] (List.getElem_mem hlt)
        have hc0 := (HW.out.2.2.trans HD.out.gr).cells (hcell k xs[k] (List.getElem?_eq_getElem hlt) 0 _ rfl)
        simp only [Nat.add_zero, Nat.mul_one] at hc0
        have q0 := HD.out.gr.cells HW.out.1
        have q1 := HD.out.gr.cells HW.out.2.1
        have HA : Hid (Crc.At wr b Crc.byt) := HH.out.1.gr (HW.out.2.2.trans HD.out.gr)
        have HK := Lib.hid hcell
        clear hcell
        generalize xs[k] = s at *
        go_wp2
        go_quiet ((first
          | (go_at_call 46; exact Calls.quiet_of_same ((crc_idf s _).mono fun _ _ h => ⟨h.1, h.2.symm⟩))
          | (go_at_call 17; exact Calls.quiet_of (crc_add Crc.byt Crc.byt_tab b t hl s hz _ (HA.out.drewN _)))))
        go_wp2
        go_roundw
        case rel => exact ⟨k + 1, by omega, by go_num, HD.out.drewN _, by rw [← HS.out]⟩
        case measure => simp [intOf]; omega
    · obtain rfl : k = xs.length := by omega
      go_wp2
      go_ret
      exact ⟨ret_int (by rw [List.take_length]), HW.out.2.2.trans HD.out.gr⟩
end Go.Proofs.Ytlkkgnidcgochaa
