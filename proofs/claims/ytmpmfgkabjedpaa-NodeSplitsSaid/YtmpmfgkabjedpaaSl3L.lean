/- Layer 6: a leaf: none, a cell's size, all their sizes (printed by sl3_gen.py). -/
import Derived.Test.YtmpmfgkabjedpaaSl2
import Derived.Test.YtmpmfgkabjedpaaSlices
namespace Go.Proofs.Ytmpmfgkabjedpaa
open Go.RowKit
set_option linter.unusedVariables false
set_option linter.unusedSimpArgs false
set_option maxRecDepth 100000
set_option maxHeartbeats 4000000
theorem lfBytes_size (k v : ByteArray) (c l : Nat) (hv : v.size ≤ 60000) : (ceBytes (k, v, c, l)).size ≤ 60300 := by
  unfold ceBytes
  split
  · simp only [ByteArray.size_append, keyBytes_size, B_be_size]; omega
  · simp only [ByteArray.size_append, keyBytes_size, B_be_size, clipB_size]; omega
def lfB (x : Ce) : ByteArray := ceBytes x
def lfSum (xs : List Ce) : Nat := (xs.map fun x => 2 + (lfB x).size).sum
theorem lfSum_snoc (xs : List Ce) (k : Nat) (h : k < xs.length) : lfSum (xs.take (k + 1)) = lfSum (xs.take k) + (2 + (lfB xs[k]).size) := by
  unfold lfSum
  rw [List.take_succ_eq_append_getElem h, List.map_append, List.sum_append]
  simp
theorem lf_eq1 (w : World) : (binOp .eql 75 (.func (.func 68) #[] #[]) .nilFunc).run Try.prog w = .ok (.bool false) w := by kernel_rfl
theorem lf_eq2 (w : World) : (binOp .eql 76 (.func (.func 69) #[] #[]) .nilFunc).run Try.prog w = .ok (.bool false) w := by kernel_rfl
theorem lf_eq3 (w : World) : (binOp .eql 75 (.func (.func 70) #[] #[]) .nilFunc).run Try.prog w = .ok (.bool false) w := by kernel_rfl
def lfV : Value := .agg #[.func (.func 68) #[] #[], .func (.func 69) #[] #[], .func (.func 70) #[] #[], .func (.func 71) #[] #[]]
theorem lf_none (w : World) : Calls Try.prog 86 #[.agg #[.func (.func 68) #[] #[], .func (.func 69) #[] #[], .func (.func 70) #[] #[], .func (.func 71) #[] #[]]] w fun r w' => r = .returned (.bool false) ∧ Gr w w' := by
  have q1 := lf_eq1
  have q2 := lf_eq2
  have q3 := lf_eq3
  have HW : Hid (Gr w (w.alloc (.cells #[.func (.func 68) #[] #[], .func (.func 69) #[] #[], .func (.func 70) #[] #[], .func (.func 71) #[] #[]] 79))) := (Gr.refl w).alloc _
  go_enter Try.func86, Try.ntmps86
  go_wp2
  go_ret
  exact ⟨rfl, HW.out⟩
theorem lf_size (k v : ByteArray) (c l : Nat) (hk : k.size ≤ 60000) (hv : v.size ≤ 60000) (hc : c < 4294967296) (hl : l < 4294967296) (w : World) : Calls Try.prog 67 #[.agg #[.func (.func 68) #[] #[], .func (.func 69) #[] #[], .func (.func 70) #[] #[], .func (.func 71) #[] #[]], .agg #[.string k, .string v, .int .u32 (c : Nat), .int .u32 (l : Nat)]] w fun r w' => r = .returned (.int .i64 ((2 + (ceBytes (k, v, c, l)).size : Nat) : Int)) ∧ Gr w w' := by
  have cN := fun w1 => Lib.hid (lf_none w1)
  have cP := fun w1 => Lib.hid (sl_putCell k v c l hk hv hc hl w1)
  have hsz := lfBytes_size k v c l hv
  generalize ceBytes (k, v, c, l) = q at *
  have HW : Hid (Gr w ((w.alloc (.cells #[.func (.func 68) #[] #[], .func (.func 69) #[] #[], .func (.func 70) #[] #[], .func (.func 71) #[] #[]] 79)).alloc (.cells #[.string k, .string v, .int .u32 (c : Nat), .int .u32 (l : Nat)] 59))) := ((Gr.refl w).alloc _).alloc _
  have h0 := ((Gr.refl (w.alloc (.cells #[.func (.func 68) #[] #[], .func (.func 69) #[] #[], .func (.func 70) #[] #[], .func (.func 71) #[] #[]] 79))).alloc (.cells #[.string k, .string v, .int .u32 (c : Nat), .int .u32 (l : Nat)] 59) |>.block (k := w.heap.size) (by rw [alloc_size]; omega)).trans (heap_alloc_last w (.cells #[.func (.func 68) #[] #[], .func (.func 69) #[] #[], .func (.func 70) #[] #[], .func (.func 71) #[] #[]] 79))
  have h1 := heap_alloc_last (w.alloc (.cells #[.func (.func 68) #[] #[], .func (.func 69) #[] #[], .func (.func 70) #[] #[], .func (.func 71) #[] #[]] 79)) (.cells #[.string k, .string v, .int .u32 (c : Nat), .int .u32 (l : Nat)] 59)
  rw [alloc_size] at h1
  go_enter Try.func67, Try.ntmps67
  have HH := Lib.hid (And.intro h0 h1)
  clear h0 h1
  go_wp2_with (first
    | (go_at_call 86; refine (cN _).out.mono ?_; rintro r v1 ⟨rfl, hg1⟩; have HK := Lib.hid (And.intro ((hg1.block (k := w.heap.size) (by simp only [alloc_size] <;> omega)).trans HH.out.1) ((hg1.block (k := w.heap.size + 1) (by simp only [alloc_size] <;> omega)).trans HH.out.2)); have s0 := row_cell HK.out.1 0 _ rfl; have s1 := row_cell HK.out.1 1 _ rfl; have s2 := row_cell HK.out.1 2 _ rfl; have s3 := row_cell HK.out.1 3 _ rfl; have x0 := row_cell HK.out.2 0 _ rfl; have x1 := row_cell HK.out.2 1 _ rfl; have x2 := row_cell HK.out.2 2 _ rfl; have x3 := row_cell HK.out.2 3 _ rfl)
    | (go_at_call 68; refine (cP _).out.mono ?_; rintro r v2 ⟨rfl, hg2⟩))
  go_ret
  exact ⟨ret_int (by omega), (HW.out.trans hg1).trans hg2⟩
theorem lf_sum (A : Option Addr) (cap : Nat) (xs : List Ce) (hcap : xs.length ≤ cap) (hcm : cap ≤ maxLen) (hl : xs.length ≤ 4000) (hx : ∀ x ∈ xs, ceOk x) (w : World) (hs : SliceAt w A 4 ceCell xs) :
    Calls Try.prog 58 #[.agg #[.func (.func 68) #[] #[], .func (.func 69) #[] #[], .func (.func 70) #[] #[], .func (.func 71) #[] #[]], .slice A xs.length cap] w fun r w' => r = .returned (.int .i64 ((lfSum xs : Nat) : Int)) ∧ Gr w w' := by
  unfold maxLen at hcm
  have HX := Lib.hid (And.intro hs hx)
  clear hs hx
  have hw0 := Lib.hid (heap_alloc_last w (.cells #[.func (.func 68) #[] #[], .func (.func 69) #[] #[], .func (.func 70) #[] #[], .func (.func 71) #[] #[]] 79))
  have HW : Hid (Gr w (w.alloc (.cells #[.func (.func 68) #[] #[], .func (.func 69) #[] #[], .func (.func 70) #[] #[], .func (.func 71) #[] #[]] 79))) := (Gr.refl w).alloc _
  go_enter Try.func58, Try.ntmps58
  go_wp2
  have HV : Hid (Gr w (w.alloc (.cells #[.func (.func 68) #[] #[], .func (.func 69) #[] #[], .func (.func 70) #[] #[], .func (.func 71) #[] #[]] 79)) ∧ (w.alloc (.cells #[.func (.func 68) #[] #[], .func (.func 69) #[] #[], .func (.func 70) #[] #[], .func (.func 71) #[] #[]] 79)).heap[w.heap.size]? = some (.cells #[.func (.func 68) #[] #[], .func (.func 69) #[] #[], .func (.func 70) #[] #[], .func (.func 71) #[] #[]] 79 (0, 0))) := ⟨HW.out, hw0.out⟩
  clear HW hw0
  generalize w.alloc (.cells #[.func (.func 68) #[] #[], .func (.func 69) #[] #[], .func (.func 70) #[] #[], .func (.func 71) #[] #[]] 79) = W at *
  generalize w.heap.size = g at *
  go_loopw [5, 10] (fun n i wr => ∃ k : Nat, k ≤ xs.length ∧ i = .int .i64 (k : Nat) ∧ n = .int .i64 ((lfSum (xs.take k) : Nat) : Int) ∧ lfSum (xs.take k) ≤ k * 60302 ∧ Hid (Gr w wr ∧ wr.heap[g]? = some (.cells #[.func (.func 68) #[] #[], .func (.func 69) #[] #[], .func (.func 70) #[] #[], .func (.func 71) #[] #[]] 79 (0, 0)))) (fun _ i _ => xs.length - (intOf i).toNat)
  case atStart => exact ⟨0, by omega, rfl, rfl, by simp [lfSum], HV.out⟩
  case round =>
    obtain ⟨k, hk, rfl, rfl, hb, HR⟩ := hrel
    by_cases hlt : k < xs.length
    · rcases HX.out.1 with h0 | ⟨a, off, rfl, hcell⟩
      · subst h0; simp at hlt
      · have hget := List.getElem?_eq_getElem hlt
        have hxo := HX.out.2 xs[k] (List.getElem_mem hlt)
        have hsn := lfSum_snoc xs k hlt
        generalize xs[k] = x at *
        obtain ⟨e0, e1, e2, e3⟩ := x
        have a0 := HR.out.1.cells (hcell k _ hget 0 _ rfl)
        have a1 := HR.out.1.cells (hcell k _ hget 1 _ rfl)
        have a2 := HR.out.1.cells (hcell k _ hget 2 _ rfl)
        have a3 := HR.out.1.cells (hcell k _ hget 3 _ rfl)
        simp only [Nat.add_zero] at a0
        have HC := Lib.hid (And.intro hcell hget)
        clear hcell hget
        have hz := lfBytes_size e0 e1 e2 e3 hxo.2.1
        have cS := fun w1 => Lib.hid (lf_size e0 e1 e2 e3 hxo.1 hxo.2.1 hxo.2.2.1 hxo.2.2.2 w1)
        simp only [lfB] at hsn
        generalize ceBytes (e0, e1, e2, e3) = q at *
        generalize lfSum (xs.take k) = sm at *
        have HSN := Lib.hid hsn
        clear hsn
        have hgl := lt_of_row HR.out.2
        have HA : Hid ((wr.alloc (.cells #[.string e0, .string e1, .int .u32 (e2 : Nat), .int .u32 (e3 : Nat)] 59)).heap[g]? = some (.cells #[.func (.func 68) #[] #[], .func (.func 69) #[] #[], .func (.func 70) #[] #[], .func (.func 71) #[] #[]] 79 (0, 0))) := (((Gr.refl wr).alloc _).block hgl).trans HR.out.2
        have s0 := row_cell HA.out 0 _ rfl
        have s1 := row_cell HA.out 1 _ rfl
        have s2 := row_cell HA.out 2 _ rfl
        have s3 := row_cell HA.out 3 _ rfl
        go_wp2_with (go_at_call 67; refine (cS _).out.mono ?_; rintro r v1 ⟨rfl, hg⟩)
        have HT : Hid (Gr w v1 ∧ v1.heap[g]? = some (.cells #[.func (.func 68) #[] #[], .func (.func 69) #[] #[], .func (.func 70) #[] #[], .func (.func 71) #[] #[]] 79 (0, 0))) := ⟨(HR.out.1.alloc _).trans hg, (hg.block (lt_of_row HA.out)).trans HA.out⟩
        clear hg HA
        go_roundw
        case rel => exact ⟨k + 1, by omega, by go_num, (by rw [HSN.out]; go_num), (by rw [HSN.out]; omega), HT⟩
        case measure => simp [intOf]; omega
    · obtain rfl : k = xs.length := by omega
      rw [List.take_length] at *
      go_wp2
      go_ret
      exact ⟨rfl, HR.out.1⟩
end Go.Proofs.Ytmpmfgkabjedpaa
