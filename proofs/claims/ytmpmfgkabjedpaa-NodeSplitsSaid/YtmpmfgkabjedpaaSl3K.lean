/- Layer 6: a branch: none, a cell's size, all their sizes (printed by sl3_gen.py). -/
import Derived.Test.YtmpmfgkabjedpaaSl2
import Derived.Test.YtmpmfgkabjedpaaSlices
namespace Go.Proofs.Ytmpmfgkabjedpaa
open Go.RowKit
set_option linter.unusedVariables false
set_option linter.unusedSimpArgs false
set_option maxRecDepth 100000
set_option maxHeartbeats 4000000
abbrev Ki := ByteArray × Nat
def kiCell (x : Ki) : List Value := [.string x.1, .int .u32 (x.2 : Nat)]
def kiOk (x : Ki) : Prop := x.1.size ≤ 60000 ∧ x.2 < 4294967296
theorem kiBytes_size (k : ByteArray) (c : Nat) : (kiBytes k c).size ≤ 300 := by
  unfold kiBytes
  rw [ByteArray.size_append, keyBytes_size, B_be_size]; omega
def kiB (x : Ki) : ByteArray := kiBytes x.1 x.2
def kiSum (xs : List Ki) : Nat := (xs.map fun x => 2 + (kiB x).size).sum
theorem kiSum_snoc (xs : List Ki) (k : Nat) (h : k < xs.length) : kiSum (xs.take (k + 1)) = kiSum (xs.take k) + (2 + (kiB xs[k]).size) := by
  unfold kiSum
  rw [List.take_succ_eq_append_getElem h, List.map_append, List.sum_append]
  simp
theorem ki_eq1 (w : World) : (binOp .eql 83 (.func (.func 73) #[] #[]) .nilFunc).run Try.prog w = .ok (.bool false) w := by kernel_rfl
theorem ki_eq2 (w : World) : (binOp .eql 84 (.func (.func 76) #[] #[]) .nilFunc).run Try.prog w = .ok (.bool false) w := by kernel_rfl
theorem ki_eq3 (w : World) : (binOp .eql 83 (.func (.func 79) #[] #[]) .nilFunc).run Try.prog w = .ok (.bool false) w := by kernel_rfl
def kiV : Value := .agg #[.func (.func 73) #[] #[], .func (.func 76) #[] #[], .func (.func 79) #[] #[], .nilFunc]
theorem ki_none (w : World) : Calls Try.prog 92 #[.agg #[.func (.func 73) #[] #[], .func (.func 76) #[] #[], .func (.func 79) #[] #[], .nilFunc]] w fun r w' => r = .returned (.bool false) ∧ Gr w w' := by
  have q1 := ki_eq1
  have q2 := ki_eq2
  have q3 := ki_eq3
  have HW : Hid (Gr w (w.alloc (.cells #[.func (.func 73) #[] #[], .func (.func 76) #[] #[], .func (.func 79) #[] #[], .nilFunc] 87))) := (Gr.refl w).alloc _
  go_enter Try.func92, Try.ntmps92
  go_wp2
  go_ret
  exact ⟨rfl, HW.out⟩
theorem ki_size (k : ByteArray) (c : Nat) (hk : k.size ≤ 60000) (hc : c < 4294967296) (w : World) : Calls Try.prog 72 #[.agg #[.func (.func 73) #[] #[], .func (.func 76) #[] #[], .func (.func 79) #[] #[], .nilFunc], .agg #[.string k, .int .u32 (c : Nat)]] w fun r w' => r = .returned (.int .i64 ((2 + (kiBytes k c).size : Nat) : Int)) ∧ Gr w w' := by
  have cN := fun w1 => Lib.hid (ki_none w1)
  have cP := fun w1 => Lib.hid (sl_putKid k c hk hc w1)
  have hsz := kiBytes_size k c
  generalize kiBytes k c = q at *
  have HW : Hid (Gr w ((w.alloc (.cells #[.func (.func 73) #[] #[], .func (.func 76) #[] #[], .func (.func 79) #[] #[], .nilFunc] 87)).alloc (.cells #[.string k, .int .u32 (c : Nat)] 61))) := ((Gr.refl w).alloc _).alloc _
  have h0 := ((Gr.refl (w.alloc (.cells #[.func (.func 73) #[] #[], .func (.func 76) #[] #[], .func (.func 79) #[] #[], .nilFunc] 87))).alloc (.cells #[.string k, .int .u32 (c : Nat)] 61) |>.block (k := w.heap.size) (by rw [alloc_size]; omega)).trans (heap_alloc_last w (.cells #[.func (.func 73) #[] #[], .func (.func 76) #[] #[], .func (.func 79) #[] #[], .nilFunc] 87))
  have h1 := heap_alloc_last (w.alloc (.cells #[.func (.func 73) #[] #[], .func (.func 76) #[] #[], .func (.func 79) #[] #[], .nilFunc] 87)) (.cells #[.string k, .int .u32 (c : Nat)] 61)
  rw [alloc_size] at h1
  go_enter Try.func72, Try.ntmps72
  have HH := Lib.hid (And.intro h0 h1)
  clear h0 h1
  go_wp2_with (first
    | (go_at_call 92; refine (cN _).out.mono ?_; rintro r v1 ⟨rfl, hg1⟩; have HK := Lib.hid (And.intro ((hg1.block (k := w.heap.size) (by simp only [alloc_size] <;> omega)).trans HH.out.1) ((hg1.block (k := w.heap.size + 1) (by simp only [alloc_size] <;> omega)).trans HH.out.2)); have s0 := row_cell HK.out.1 0 _ rfl; have s1 := row_cell HK.out.1 1 _ rfl; have s2 := row_cell HK.out.1 2 _ rfl; have s3 := row_cell HK.out.1 3 _ rfl; have x0 := row_cell HK.out.2 0 _ rfl; have x1 := row_cell HK.out.2 1 _ rfl)
    | (go_at_call 73; refine (cP _).out.mono ?_; rintro r v2 ⟨rfl, hg2⟩))
  go_ret
  exact ⟨ret_int (by omega), (HW.out.trans hg1).trans hg2⟩
theorem ki_sum (A : Option Addr) (cap : Nat) (xs : List Ki) (hcap : xs.length ≤ cap) (hcm : cap ≤ maxLen) (hl : xs.length ≤ 4000) (hx : ∀ x ∈ xs, kiOk x) (w : World) (hs : SliceAt w A 2 kiCell xs) :
    Calls Try.prog 59 #[.agg #[.func (.func 73) #[] #[], .func (.func 76) #[] #[], .func (.func 79) #[] #[], .nilFunc], .slice A xs.length cap] w fun r w' => r = .returned (.int .i64 ((kiSum xs : Nat) : Int)) ∧ Gr w w' := by
  unfold maxLen at hcm
  have HX := Lib.hid (And.intro hs hx)
  clear hs hx
  have hw0 := Lib.hid (heap_alloc_last w (.cells #[.func (.func 73) #[] #[], .func (.func 76) #[] #[], .func (.func 79) #[] #[], .nilFunc] 87))
  have HW : Hid (Gr w (w.alloc (.cells #[.func (.func 73) #[] #[], .func (.func 76) #[] #[], .func (.func 79) #[] #[], .nilFunc] 87))) := (Gr.refl w).alloc _
  go_enter Try.func59, Try.ntmps59
  go_wp2
  have HV : Hid (Gr w (w.alloc (.cells #[.func (.func 73) #[] #[], .func (.func 76) #[] #[], .func (.func 79) #[] #[], .nilFunc] 87)) ∧ (w.alloc (.cells #[.func (.func 73) #[] #[], .func (.func 76) #[] #[], .func (.func 79) #[] #[], .nilFunc] 87)).heap[w.heap.size]? = some (.cells #[.func (.func 73) #[] #[], .func (.func 76) #[] #[], .func (.func 79) #[] #[], .nilFunc] 87 (0, 0))) := ⟨HW.out, hw0.out⟩
  clear HW hw0
  generalize w.alloc (.cells #[.func (.func 73) #[] #[], .func (.func 76) #[] #[], .func (.func 79) #[] #[], .nilFunc] 87) = W at *
  generalize w.heap.size = g at *
  go_loopw [5, 10] (fun n i wr => ∃ k : Nat, k ≤ xs.length ∧ i = .int .i64 (k : Nat) ∧ n = .int .i64 ((kiSum (xs.take k) : Nat) : Int) ∧ kiSum (xs.take k) ≤ k * 60302 ∧ Hid (Gr w wr ∧ wr.heap[g]? = some (.cells #[.func (.func 73) #[] #[], .func (.func 76) #[] #[], .func (.func 79) #[] #[], .nilFunc] 87 (0, 0)))) (fun _ i _ => xs.length - (intOf i).toNat)
  case atStart => exact ⟨0, by omega, rfl, rfl, by simp [kiSum], HV.out⟩
  case round =>
    obtain ⟨k, hk, rfl, rfl, hb, HR⟩ := hrel
    by_cases hlt : k < xs.length
    · rcases HX.out.1 with h0 | ⟨a, off, rfl, hcell⟩
      · subst h0; simp at hlt
      · have hget := List.getElem?_eq_getElem hlt
        have hxo := HX.out.2 xs[k] (List.getElem_mem hlt)
        have hsn := kiSum_snoc xs k hlt
        generalize xs[k] = x at *
        obtain ⟨e0, e1⟩ := x
        have a0 := HR.out.1.cells (hcell k _ hget 0 _ rfl)
        have a1 := HR.out.1.cells (hcell k _ hget 1 _ rfl)
        simp only [Nat.add_zero] at a0
        have HC := Lib.hid (And.intro hcell hget)
        clear hcell hget
        have hz := kiBytes_size e0 e1
        have cS := fun w1 => Lib.hid (ki_size e0 e1 hxo.1 hxo.2 w1)
        simp only [kiB] at hsn
        generalize kiBytes e0 e1 = q at *
        generalize kiSum (xs.take k) = sm at *
        have HSN := Lib.hid hsn
        clear hsn
        have hgl := lt_of_row HR.out.2
        have HA : Hid ((wr.alloc (.cells #[.string e0, .int .u32 (e1 : Nat)] 61)).heap[g]? = some (.cells #[.func (.func 73) #[] #[], .func (.func 76) #[] #[], .func (.func 79) #[] #[], .nilFunc] 87 (0, 0))) := (((Gr.refl wr).alloc _).block hgl).trans HR.out.2
        have s0 := row_cell HA.out 0 _ rfl
        have s1 := row_cell HA.out 1 _ rfl
        have s2 := row_cell HA.out 2 _ rfl
        have s3 := row_cell HA.out 3 _ rfl
        go_wp2_with (go_at_call 72; refine (cS _).out.mono ?_; rintro r v1 ⟨rfl, hg⟩)
        have HT : Hid (Gr w v1 ∧ v1.heap[g]? = some (.cells #[.func (.func 73) #[] #[], .func (.func 76) #[] #[], .func (.func 79) #[] #[], .nilFunc] 87 (0, 0))) := ⟨(HR.out.1.alloc _).trans hg, (hg.block (lt_of_row HA.out)).trans HA.out⟩
        clear hg HA
        go_roundw
        case rel => exact ⟨k + 1, by omega, by go_num, (by rw [HSN.out]; go_num), (by rw [HSN.out]; omega), HT⟩
        case measure => simp [intOf]; omega
    · obtain rfl : k = xs.length := by omega
      rw [List.take_length] at *
      go_wp2
      go_ret
      exact ⟨rfl, HR.out.1⟩
end Go.Proofs.Ytmpmfgkabjedpaa
