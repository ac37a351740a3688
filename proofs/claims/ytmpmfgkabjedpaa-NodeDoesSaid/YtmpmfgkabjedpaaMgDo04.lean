/- Layer 6: a leaf: none, a cell's size, all their sizes (printed by sl3_gen.py). -/
import Derived.Test.YtmpmfgkabjedpaaMgDo02
import Derived.Test.YtmpmfgkabjedpaaMgDo03
import Derived.BigQuiet
import Derived.Sort.Walk0
import Derived.Laws.Cover1
namespace Go.Proofs.Ytmpmfgkabjedpaa
open Go.RowKit
set_option linter.unusedVariables false
set_option linter.unusedSimpArgs false
set_option maxRecDepth 100000
set_option maxHeartbeats 4000000
theorem lfBytes_size (k v : ByteArray) (c l : Nat) (hv : v.size ≤ 60000) : (ceBytes (k, v, c, l)).size ≤ 60300 := by
  unfold ceBytes
  split
  · simp only [ByteArray.size_append, keyBytes_size, B_be_size]; omega
  · simp only [ByteArray.size_append, keyBytes_size, B_be_size, clipB_size]; omega
def lfB (x : Ce) : ByteArray := ceBytes x
def lfSum (xs : List Ce) : Nat := (xs.map fun x => 2 + (lfB x).size).sum
theorem lfSum_snoc (xs : List Ce) (k : Nat) (h : k < xs.length) : lfSum (xs.take (k + 1)) = lfSum (xs.take k) + (2 + (lfB xs[k]).size) := by
  unfold lfSum
  rw [List.take_succ_eq_append_getElem h, List.map_append, List.sum_append]
  simp
theorem lf_eq1 (w : World) : (binOp .eql 75 (.func (.func 68) #[] #[]) .nilFunc).run Try.prog w = .ok (.bool false) w := by kernel_rfl
theorem lf_eq2 (w : World) : (binOp .eql 76 (.func (.func 69) #[] #[]) .nilFunc).run Try.prog w = .ok (.bool false) w := by kernel_rfl
theorem lf_eq3 (w : World) : (binOp .eql 75 (.func (.func 70) #[] #[]) .nilFunc).run Try.prog w = .ok (.bool false) w := by kernel_rfl
def lfV : Value := .agg #[.func (.func 68) #[] #[], .func (.func 69) #[] #[], .func (.func 70) #[] #[], .func (.func 71) #[] #[]]
theorem lf_none (w : World) : Calls Try.prog 86 #[.agg #[.func (.func 68) #[] #[], .func (.func 69) #[] #[], .func (.func 70) #[] #[], .func (.func 71) #[] #[]]] w fun r w' => r = .returned (.bool false) ∧ Gr w w' := by
  have q1 := lf_eq1
  have q2 := lf_eq2
  have q3 := lf_eq3
  have HW : Hid (Gr w (w.alloc (.cells #[.func (.func 68) #[] #[], .func (.func 69) #[] #[], .func (.func 70) #[] #[], .func (.func 71) #[] #[]] 79))) := (Gr.refl w).alloc _
  go_enter Try.func86, Try.ntmps86
  go_wp2
  go_ret
  exact ⟨rfl, HW.out⟩
theorem lf_size (k v : ByteArray) (c l : Nat) (hk : k.size ≤ 60000) (hv : v.size ≤ 60000) (hc : c < 4294967296) (hl : l < 4294967296) (w : World) : Calls Try.prog 67 #[.agg #[.func (.func 68) #[] #[], .func (.func 69) #[] #[], .func (.func 70) #[] #[], .func (.func 71) #[] #[]], .agg #[.string k, .string v, .int .u32 (c : Nat), .int .u32 (l : Nat)]] w fun r w' => r = .returned (.int .i64 ((2 + (ceBytes (k, v, c, l)).size : Nat) : Int)) ∧ Gr w w' := by
  have cN := fun w1 => Lib.hid (lf_none w1)
  have cP := fun w1 => Lib.hid (sl_putCell k v c l hk hv hc hl w1)
  have hsz := lfBytes_size k v c l hv
  generalize ceBytes (k, v, c, l) = q at *
  have HW : Hid (Gr w ((w.alloc (.cells #[.func (.func 68) #[] #[], .func (.func 69) #[] #[], .func (.func 70) #[] #[], .func (.func 71) #[] #[]] 79)).alloc (.cells #[.string k, .string v, .int .u32 (c : Nat), .int .u32 (l : Nat)] 59))) := ((Gr.refl w).alloc _).alloc _
  have h0 := ((Gr.refl (w.alloc (.cells #[.func (.func 68) #[] #[], .func (.func 69) #[] #[], .func (.func 70) #[] #[], .func (.func 71) #[] #[]] 79))).alloc (.cells #[.string k, .string v, .int .u32 (c : Nat), .int .u32 (l : Nat)] 59) |>.block (k := w.heap.size) (by rw [alloc_size]; omega)).trans (heap_alloc_last w (.cells #[.func (.func 68) #[] #[], .func (.func 69) #[] #[], .func (.func 70) #[] #[], .func (.func 71) #[] #[]] 79))
  have h1 := heap_alloc_last (w.alloc (.cells #[.func (.func 68) #[] #[], .func (.func 69) #[] #[], .func (.func 70) #[] #[], .func (.func 71) #[] #[]] 79)) (.cells #[.string k, .string v, .int .u32 (c : Nat), .int .u32 (l : Nat)] 59)
  rw [alloc_size] at h1
  go_enter Try.func67, Try.ntmps67
  have HH := Lib.hid (And.intro h0 h1)
  clear h0 h1
  go_wp2_with (first
    | (go_at_call 86; refine (cN _).out.mono ?_; rintro r v1 ⟨rfl, hg1⟩; have HK := Lib.hid (And.intro ((hg1.block (k := w.heap.size) (by simp only [alloc_size] <;> omega)).trans HH.out.1) ((hg1.block (k := w.heap.size + 1) (by simp only [alloc_size] <;> omega)).trans HH.out.2)); have s0 := row_cell HK.out.1 0 _ rfl; have s1 := row_cell HK.out.1 1 _ rfl; have s2 := row_cell HK.out.1 2 _ rfl; have s3 := row_cell HK.out.1 3 _ rfl; have x0 := row_cell HK.out.2 0 _ rfl; have x1 := row_cell HK.out.2 1 _ rfl; have x2 := row_cell HK.out.2 2 _ rfl; have x3 := row_cell HK.out.2 3 _ rfl)
    | (go_at_call 68; refine (cP _).out.mono ?_; rintro r v2 ⟨rfl, hg2⟩))
  go_ret
  exact ⟨ret_int (by omega), (HW.out.trans hg1).trans hg2⟩
theorem lf_sum (A : Option Addr) (cap : Nat) (xs : List Ce) (hcap : xs.length ≤ cap) (hcm : cap ≤ maxLen) (hl : xs.length ≤ 4000) (hx : ∀ x ∈ xs, ceOk x) (w : World) (hs : SliceAt w A 4 ceCell xs) :
    Calls Try.prog 58 #[.agg #[.func (.func 68) #[] #[], .func (.func 69) #[] #[], .func (.func 70) #[] #[], .func (.func 71) #[] #[]], .slice A xs.length cap] w fun r w' => r = .returned (.int .i64 ((lfSum xs : Nat) : Int)) ∧ Gr w w' := by
  unfold maxLen at hcm
  have HX := Lib.hid (And.intro hs hx)
  clear hs hx
  have hw0 := Lib.hid (heap_alloc_last w (.cells #[.func (.func 68) #[] #[], .func (.func 69) #[] #[], .func (.func 70) #[] #[], .func (.func 71) #[] #[]] 79))
  have HW : Hid (Gr w (w.alloc (.cells #[.func (.func 68) #[] #[], .func (.func 69) #[] #[], .func (.func 70) #[] #[], .func (.func 71) #[] #[]] 79))) := (Gr.refl w).alloc _
  go_enter Try.func58, Try.ntmps58
  go_wp2
  have HV : Hid (Gr w (w.alloc (.cells #[.func (.func 68) #[] #[], .func (.func 69) #[] #[], .func (.func 70) #[] #[], .func (.func 71) #[] #[]] 79)) ∧ (w.alloc (.cells #[.func (.func 68) #[] #[], .func (.func 69) #[] #[], .func (.func 70) #[] #[], .func (.func 71) #[] #[]] 79)).heap[w.heap.size]? = some (.cells #[.func (.func 68) #[] #[], .func (.func 69) #[] #[], .func (.func 70) #[] #[], .func (.func 71) #[] #[]] 79 (0, 0))) := ⟨HW.out, hw0.out⟩
  clear HW hw0
  generalize w.alloc (.cells #[.func (.func 68) #[] #[], .func (.func 69) #[] #[], .func (.func 70) #[] #[], .func (.func 71) #[] #[]] 79) = W at *
  generalize w.heap.size = g at *
  go_loopw [5, 10] (fun n i wr => ∃ k : Nat, k ≤ xs.length ∧ i = .int .i64 (k : Nat) ∧ n = .int .i64 ((lfSum (xs.take k) : Nat) : Int) ∧ lfSum (xs.take k) ≤ k * 60302 ∧ Hid (Gr w wr ∧ wr.heap[g]? = some (.cells #[.func (.func 68) #[] #[], .func (.func 69) #[] #[], .func (.func 70) #[] #[], .func (.func 71) #[] #[]] 79 (0, 0)))) (fun _ i _ => xs.length - (intOf i).toNat)
  case atStart => exact ⟨0, by omega, rfl, rfl, by simp [lfSum], HV.out⟩
  case round =>
    obtain ⟨k, hk, rfl, rfl, hb, HR⟩ := hrel
    by_cases hlt : k < xs.length
    · rcases HX.out.1 with h0 | ⟨a, off, rfl, hcell⟩
      · subst h0; simp at hlt
      · have hget := List.getElem?_eq_getElem hlt
        have hxo := HX.out.2 xs[k] (List.getElem_mem hlt)
        have hsn := lfSum_snoc xs k hlt
        generalize xs[k] = x at *
        obtain ⟨e0, e1, e2, e3⟩ := x
        have a0 := HR.out.1.cells (hcell k _ hget 0 _ rfl)
        have a1 := HR.out.1.cells (hcell k _ hget 1 _ rfl)
        have a2 := HR.out.1.cells (hcell k _ hget 2 _ rfl)
        have a3 := HR.out.1.cells (hcell k _ hget 3 _ rfl)
        simp only [Nat.add_zero] at a0
        have HC := Lib.hid (And.intro hcell hget)
        clear hcell hget
        have hz := lfBytes_size e0 e1 e2 e3 hxo.2.1
        have cS := fun w1 => Lib.hid (lf_size e0 e1 e2 e3 hxo.1 hxo.2.1 hxo.2.2.1 hxo.2.2.2 w1)
        simp only [lfB] at hsn
        generalize ceBytes (e0, e1, e2, e3) = q at *
        generalize lfSum (xs.take k) = sm at *
        have HSN := Lib.hid hsn
        clear hsn
        have hgl := lt_of_row HR.out.2
        have HA : Hid ((wr.alloc (.cells #[.string e0, .string e1, .int .u32 (e2 : Nat), .int .u32 (e3 : Nat)] 59)).heap[g]? = some (.cells #[.func (.func 68) #[] #[], .func (.func 69) #[] #[], .func (.func 70) #[] #[], .func (.func 71) #[] #[]] 79 (0, 0))) := (((Gr.refl wr).alloc _).block hgl).trans HR.out.2
        have s0 := row_cell HA.out 0 _ rfl
        have s1 := row_cell HA.out 1 _ rfl
        have s2 := row_cell HA.out 2 _ rfl
        have s3 := row_cell HA.out 3 _ rfl
        go_wp2_with (go_at_call 67; refine (cS _).out.mono ?_; rintro r v1 ⟨rfl, hg⟩)
        have HT : Hid (Gr w v1 ∧ v1.heap[g]? = some (.cells #[.func (.func 68) #[] #[], .func (.func 69) #[] #[], .func (.func 70) #[] #[], .func (.func 71) #[] #[]] 79 (0, 0))) := ⟨(HR.out.1.alloc _).trans hg, (hg.block (lt_of_row HA.out)).trans HA.out⟩
        clear hg HA
        go_roundw
        case rel => exact ⟨k + 1, by omega, by go_num, (by rw [HSN.out]; go_num), (by rw [HSN.out]; omega), HT⟩
        case measure => simp [intOf]; omega
    · obtain rfl : k = xs.length := by omega
      rw [List.take_length] at *
      go_wp2
      go_ret
      exact ⟨rfl, HR.out.1⟩
end Go.Proofs.Ytmpmfgkabjedpaa
namespace Go.Proofs.Ytmpmfgkabjedpaa
open Go.RowKit
set_option linter.unusedVariables false
set_option linter.unusedSimpArgs false
set_option maxRecDepth 100000
set_option maxHeartbeats 4000000
abbrev Ki := ByteArray × Nat
def kiCell (x : Ki) : List Value := [.string x.1, .int .u32 (x.2 : Nat)]
def kiOk (x : Ki) : Prop := x.1.size ≤ 60000 ∧ x.2 < 4294967296
theorem kiBytes_size (k : ByteArray) (c : Nat) : (kiBytes k c).size ≤ 300 := by
  unfold kiBytes
  rw [ByteArray.size_append, keyBytes_size, B_be_size]; omega
def kiB (x : Ki) : ByteArray := kiBytes x.1 x.2
def kiSum (xs : List Ki) : Nat := (xs.map fun x => 2 + (kiB x).size).sum
theorem kiSum_snoc (xs : List Ki) (k : Nat) (h : k < xs.length) : kiSum (xs.take (k + 1)) = kiSum (xs.take k) + (2 + (kiB xs[k]).size) := by
  unfold kiSum
  rw [List.take_succ_eq_append_getElem h, List.map_append, List.sum_append]
  simp
theorem ki_eq1 (w : World) : (binOp .eql 83 (.func (.func 73) #[] #[]) .nilFunc).run Try.prog w = .ok (.bool false) w := by kernel_rfl
theorem ki_eq2 (w : World) : (binOp .eql 84 (.func (.func 76) #[] #[]) .nilFunc).run Try.prog w = .ok (.bool false) w := by kernel_rfl
theorem ki_eq3 (w : World) : (binOp .eql 83 (.func (.func 79) #[] #[]) .nilFunc).run Try.prog w = .ok (.bool false) w := by kernel_rfl
def kiV : Value := .agg #[.func (.func 73) #[] #[], .func (.func 76) #[] #[], .func (.func 79) #[] #[], .nilFunc]
theorem ki_none (w : World) : Calls Try.prog 92 #[.agg #[.func (.func 73) #[] #[], .func (.func 76) #[] #[], .func (.func 79) #[] #[], .nilFunc]] w fun r w' => r = .returned (.bool false) ∧ Gr w w' := by
  have q1 := ki_eq1
  have q2 := ki_eq2
  have q3 := ki_eq3
  have HW : Hid (Gr w (w.alloc (.cells #[.func (.func 73) #[] #[], .func (.func 76) #[] #[], .func (.func 79) #[] #[], .nilFunc] 87))) := (Gr.refl w).alloc _
  go_enter Try.func92, Try.ntmps92
  go_wp2
  go_ret
  exact ⟨rfl, HW.out⟩
theorem ki_size (k : ByteArray) (c : Nat) (hk : k.size ≤ 60000) (hc : c < 4294967296) (w : World) : Calls Try.prog 72 #[.agg #[.func (.func 73) #[] #[], .func (.func 76) #[] #[], .func (.func 79) #[] #[], .nilFunc], .agg #[.string k, .int .u32 (c : Nat)]] w fun r w' => r = .returned (.int .i64 ((2 + (kiBytes k c).size : Nat) : Int)) ∧ Gr w w' := by
  have cN := fun w1 => Lib.hid (ki_none w1)
  have cP := fun w1 => Lib.hid (sl_putKid k c hk hc w1)
  have hsz := kiBytes_size k c
  generalize kiBytes k c = q at *
  have HW : Hid (Gr w ((w.alloc (.cells #[.func (.func 73) #[] #[], .func (.func 76) #[] #[], .func (.func 79) #[] #[], .nilFunc] 87)).alloc (.cells #[.string k, .int .u32 (c : Nat)] 61))) := ((Gr.refl w).alloc _).alloc _
  have h0 := ((Gr.refl (w.alloc (.cells #[.func (.func 73) #[] #[], .func (.func 76) #[] #[], .func (.func 79) #[] #[], .nilFunc] 87))).alloc (.cells #[.string k, .int .u32 (c : Nat)] 61) |>.block (k := w.heap.size) (by rw [alloc_size]; omega)).trans (heap_alloc_last w (.cells #[.func (.func 73) #[] #[], .func (.func 76) #[] #[], .func (.func 79) #[] #[], .nilFunc] 87))
  have h1 := heap_alloc_last (w.alloc (.cells #[.func (.func 73) #[] #[], .func (.func 76) #[] #[], .func (.func 79) #[] #[], .nilFunc] 87)) (.cells #[.string k, .int .u32 (c : Nat)] 61)
  rw [alloc_size] at h1
  go_enter Try.func72, Try.ntmps72
  have HH := Lib.hid (And.intro h0 h1)
  clear h0 h1
  go_wp2_with (first
    | (go_at_call 92; refine (cN _).out.mono ?_; rintro r v1 ⟨rfl, hg1⟩; have HK := Lib.hid (And.intro ((hg1.block (k := w.heap.size) (by simp only [alloc_size] <;> omega)).trans HH.out.1) ((hg1.block (k := w.heap.size + 1) (by simp only [alloc_size] <;> omega)).trans HH.out.2)); have s0 := row_cell HK.out.1 0 _ rfl; have s1 := row_cell HK.out.1 1 _ rfl; have s2 := row_cell HK.out.1 2 _ rfl; have s3 := row_cell HK.out.1 3 _ rfl; have x0 := row_cell HK.out.2 0 _ rfl; have x1 := row_cell HK.out.2 1 _ rfl)
    | (go_at_call 73; refine (cP _).out.mono ?_; rintro r v2 ⟨rfl, hg2⟩))
  go_ret
  exact ⟨ret_int (by omega), (HW.out.trans hg1).trans hg2⟩
theorem ki_sum (A : Option Addr) (cap : Nat) (xs : List Ki) (hcap : xs.length ≤ cap) (hcm : cap ≤ maxLen) (hl : xs.length ≤ 4000) (hx : ∀ x ∈ xs, kiOk x) (w : World) (hs : SliceAt w A 2 kiCell xs) :
    Calls Try.prog 59 #[.agg #[.func (.func 73) #[] #[], .func (.func 76) #[] #[], .func (.func 79) #[] #[], .nilFunc], .slice A xs.length cap] w fun r w' => r = .returned (.int .i64 ((kiSum xs : Nat) : Int)) ∧ Gr w w' := by
  unfold maxLen at hcm
  have HX := Lib.hid (And.intro hs hx)
  clear hs hx
  have hw0 := Lib.hid (heap_alloc_last w (.cells #[.func (.func 73) #[] #[], .func (.func 76) #[] #[], .func (.func 79) #[] #[], .nilFunc] 87))
  have HW : Hid (Gr w (w.alloc (.cells #[.func (.func 73) #[] #[], .func (.func 76) #[] #[], .func (.func 79) #[] #[], .nilFunc] 87))) := (Gr.refl w).alloc _
  go_enter Try.func59, Try.ntmps59
  go_wp2
  have HV : Hid (Gr w (w.alloc (.cells #[.func (.func 73) #[] #[], .func (.func 76) #[] #[], .func (.func 79) #[] #[], .nilFunc] 87)) ∧ (w.alloc (.cells #[.func (.func 73) #[] #[], .func (.func 76) #[] #[], .func (.func 79) #[] #[], .nilFunc] 87)).heap[w.heap.size]? = some (.cells #[.func (.func 73) #[] #[], .func (.func 76) #[] #[], .func (.func 79) #[] #[], .nilFunc] 87 (0, 0))) := ⟨HW.out, hw0.out⟩
  clear HW hw0
  generalize w.alloc (.cells #[.func (.func 73) #[] #[], .func (.func 76) #[] #[], .func (.func 79) #[] #[], .nilFunc] 87) = W at *
  generalize w.heap.size = g at *
  go_loopw [5, 10] (fun n i wr => ∃ k : Nat, k ≤ xs.length ∧ i = .int .i64 (k : Nat) ∧ n = .int .i64 ((kiSum (xs.take k) : Nat) : Int) ∧ kiSum (xs.take k) ≤ k * 60302 ∧ Hid (Gr w wr ∧ wr.heap[g]? = some (.cells #[.func (.func 73) #[] #[], .func (.func 76) #[] #[], .func (.func 79) #[] #[], .nilFunc] 87 (0, 0)))) (fun _ i _ => xs.length - (intOf i).toNat)
  case atStart => exact ⟨0, by omega, rfl, rfl, by simp [kiSum], HV.out⟩
  case round =>
    obtain ⟨k, hk, rfl, rfl, hb, HR⟩ := hrel
    by_cases hlt : k < xs.length
    · rcases HX.out.1 with h0 | ⟨a, off, rfl, hcell⟩
      · subst h0; simp at hlt
      · have hget := List.getElem?_eq_getElem hlt
        have hxo := HX.out.2 xs[k] (List.getElem_mem hlt)
        have hsn := kiSum_snoc xs k hlt
        generalize xs[k] = x at *
        obtain ⟨e0, e1⟩ := x
        have a0 := HR.out.1.cells (hcell k _ hget 0 _ rfl)
        have a1 := HR.out.1.cells (hcell k _ hget 1 _ rfl)
        simp only [Nat.add_zero] at a0
        have HC := Lib.hid (And.intro hcell hget)
        clear hcell hget
        have hz := kiBytes_size e0 e1
        have cS := fun w1 => Lib.hid (ki_size e0 e1 hxo.1 hxo.2 w1)
        simp only [kiB] at hsn
        generalize kiBytes e0 e1 = q at *
        generalize kiSum (xs.take k) = sm at *
        have HSN := Lib.hid hsn
        clear hsn
        have hgl := lt_of_row HR.out.2
        have HA : Hid ((wr.alloc (.cells #[.string e0, .int .u32 (e1 : Nat)] 61)).heap[g]? = some (.cells #[.func (.func 73) #[] #[], .func (.func 76) #[] #[], .func (.func 79) #[] #[], .nilFunc] 87 (0, 0))) := (((Gr.refl wr).alloc _).block hgl).trans HR.out.2
        have s0 := row_cell HA.out 0 _ rfl
        have s1 := row_cell HA.out 1 _ rfl
        have s2 := row_cell HA.out 2 _ rfl
        have s3 := row_cell HA.out 3 _ rfl
        go_wp2_with (go_at_call 72; refine (cS _).out.mono ?_; rintro r v1 ⟨rfl, hg⟩)
        have HT : Hid (Gr w v1 ∧ v1.heap[g]? = some (.cells #[.func (.func 73) #[] #[], .func (.func 76) #[] #[], .func (.func 79) #[] #[], .nilFunc] 87 (0, 0))) := ⟨(HR.out.1.alloc _).trans hg, (hg.block (lt_of_row HA.out)).trans HA.out⟩
        clear hg HA
        go_roundw
        case rel => exact ⟨k + 1, by omega, by go_num, (by rw [HSN.out]; go_num), (by rw [HSN.out]; omega), HT⟩
        case measure => simp [intOf]; omega
    · obtain rfl : k = xs.length := by omega
      rw [List.take_length] at *
      go_wp2
      go_ret
      exact ⟨rfl, HR.out.1⟩
end Go.Proofs.Ytmpmfgkabjedpaa
namespace Go.Proofs.Ytmpmfgkabjedpaa
open Go.RowKit
set_option linter.unusedVariables false
set_option linter.unusedSimpArgs false
set_option maxRecDepth 100000
set_option maxHeartbeats 4000000
/-- a cell's bytes: a leaf's, a branch's (its page is Chain) -/
def rcB (leaf : Bool) (x : Ce) : ByteArray := if leaf then ceBytes x else kiBytes x.1 x.2.2.1
theorem rf_cell (k v : ByteArray) (c l : Nat) (hk : k.size ≤ 60000) (hv : v.size ≤ 60000) (hc : c < 4294967296) (hl : l < 4294967296) (leaf : Bool) (w : World) :
    Calls Try.prog 80 #[.agg #[.string k, .string v, .int .u32 (c : Nat), .int .u32 (l : Nat)], .bool leaf] w fun r w' => r = .returned (.string (rcB leaf (k, v, c, l))) ∧ Gr w w' := by
  have hzv : clipB v 65535 = v := clipB_all v 65535 (by omega)
  obtain ⟨ck, hck, hks, hcase⟩ : ∃ ck : ByteArray, keyBytes k = B (Oct.be ck.size 1) ++ ck ∧ ck.size ≤ 255 ∧ ((k.size ≤ 255 ∧ ck = k) ∨ (255 < k.size ∧ k.extract 0 255 = ck)) := by
    refine ⟨clipB k 255, rfl, by rw [clipB_size]; omega, ?_⟩
    by_cases h : k.size ≤ 255
    · exact .inl ⟨h, clipB_all k 255 h⟩
    · exact .inr ⟨by omega, by unfold clipB; rw [Nat.min_eq_right (by omega)]⟩
  have HRC : Hid (rcB leaf (k, v, c, l) = if leaf then (if c ≠ 0 then B (Oct.be ck.size 1) ++ ck ++ B (Oct.be 1 1) ++ B (Oct.be c 4) ++ B (Oct.be l 4) else B (Oct.be ck.size 1) ++ ck ++ B (Oct.be 0 1) ++ B (Oct.be v.size 2) ++ v) else B (Oct.be ck.size 1) ++ ck ++ B (Oct.be c 4)) := by
    unfold Hid rcB ceBytes kiBytes
    simp only [hck, hzv]
  clear hck hzv
  have hw0 := heap_alloc_last w (.cells #[.string k, .string v, .int .u32 (c : Nat), .int .u32 (l : Nat)] 59)
  have HW : Hid (Gr w (w.alloc (.cells #[.string k, .string v, .int .u32 (c : Nat), .int .u32 (l : Nat)] 59))) := (Gr.refl w).alloc _
  have cS := fun w1 => Lib.hid (ref_big ck.size (by unfold U64; omega) 1 (by omega) w1)
  have cC := fun w1 => Lib.hid (ref_big c (by unfold U64; omega) 4 (by omega) w1)
  have cL := fun w1 => Lib.hid (ref_big l (by unfold U64; omega) 4 (by omega) w1)
  have c1 := fun w1 => Lib.hid (ref_big 1 (by unfold U64; omega) 1 (by omega) w1)
  have c0 := fun w1 => Lib.hid (ref_big 0 (by unfold U64; omega) 1 (by omega) w1)
  have cV := fun w1 => Lib.hid (ref_big v.size (by unfold U64; omega) 2 (by omega) w1)
  have z1 := B_be_size ck.size 1
  have z2 := B_be_size c 4
  have z3 := B_be_size l 4
  have z4 := B_be_size 1 1
  have z5 := B_be_size 0 1
  have z6 := B_be_size v.size 2
  have e1 : ((1 : Nat) : Int) = 1 := rfl
  have e00 : ((0 : Nat) : Int) = 0 := rfl
  simp only [e1] at c1
  simp only [e00] at c0
  have wk : IntKind.u64.wrap ((ck.size : Nat) : Int) = ((ck.size : Nat) : Int) := wrap_u64_of _ (by unfold U64; omega)
  have wc : IntKind.u64.wrap (c : Int) = (c : Int) := wrap_u64_of _ (by unfold U64; omega)
  have wl : IntKind.u64.wrap (l : Int) = (l : Int) := wrap_u64_of _ (by unfold U64; omega)
  have wv : IntKind.u64.wrap ((v.size : Nat) : Int) = ((v.size : Nat) : Int) := wrap_u64_of _ (by unfold U64; omega)
  have hvn : ¬ (65535 : Int) < (v.size : Int) := by omega
  generalize B (Oct.be ck.size 1) = g1 at *
  generalize B (Oct.be c 4) = g2 at *
  generalize B (Oct.be l 4) = g3 at *
  generalize B (Oct.be 1 1) = g4 at *
  generalize B (Oct.be 0 1) = g5 at *
  generalize B (Oct.be v.size 2) = g6 at *
  have x0 := row_cell hw0 0 _ rfl
  have x1 := row_cell hw0 1 _ rfl
  have x2 := row_cell hw0 2 _ rfl
  have x3 := row_cell hw0 3 _ rfl
  clear hw0
  generalize rcB leaf (k, v, c, l) = q at *
  have y1 : ¬ (9223372036854775807 < 1 + ck.size) := by omega
  have y2 : ¬ (9223372036854775807 < 1 + ck.size + 4) := by omega
  have y3 : ¬ (9223372036854775807 < 1 + ck.size + 1) := by omega
  have y4 : ¬ (9223372036854775807 < 1 + ck.size + 1 + 4) := by omega
  have y5 : ¬ (9223372036854775807 < 1 + ck.size + 1 + 4 + 4) := by omega
  have y6 : ¬ (9223372036854775807 < 1 + ck.size + 1 + 2) := by omega
  have y7 : ¬ (9223372036854775807 < 1 + ck.size + 1 + 2 + v.size) := by omega
  rcases hcase with ⟨hkb, hck2⟩ | ⟨hkb, hext⟩
  · have hck3 := hck2.symm
    clear hck2
    subst hck3
    have hkn : ¬ (255 : Int) < (k.size : Int) := by omega
    cases leaf with
    | false =>
      have hq := HRC.out
      simp only [Bool.false_eq_true, if_false] at hq
      subst hq
      go_enter Try.func80, Try.ntmps80
      go_wp2
      generalize (w.alloc (.cells #[.string k, .string v, .int .u32 (c : Nat), .int .u32 (l : Nat)] 59)) = W at *
      go_quiet (fail)
      go_wp2_with (first
        | (go_at_call 95; (with_reducible show Calls _ _ #[.int .u64 (k.size : Nat), _] _ _); refine (cS _).out.mono ?_; clear cS; rintro r v1 ⟨rfl, hg⟩; have HV1 : Hid (Gr W v1) := (Gr.refl W).drewN _ |>.trans hg; clear hg; have x2b := HV1.out.cells x2; have x3b := HV1.out.cells x3)
        | (go_at_call 95; (with_reducible show Calls _ _ #[.int .u64 (c : Nat), _] _ _); refine (cC _).out.mono ?_; clear cC; rintro r v2 ⟨rfl, hg⟩; have HV2 : Hid (Gr W v2) := HV1.out.trans hg; clear hg))
      go_ret
      exact ⟨rfl, HW.out.trans HV2.out⟩
    | true =>
      have hq := HRC.out
      simp only [if_true] at hq
      by_cases h0 : c = 0
      · subst h0
        simp only [ne_eq, not_true_eq_false, if_false] at hq
        subst hq
        simp only [e00] at *
        go_enter Try.func80, Try.ntmps80
        go_wp2
        generalize (w.alloc (.cells #[.string k, .string v, .int .u32 0, .int .u32 (l : Nat)] 59)) = W at *
        go_quiet (fail)
        go_wp2_with (first
          | (go_at_call 95; (with_reducible show Calls _ _ #[.int .u64 (k.size : Nat), _] _ _); refine (cS _).out.mono ?_; clear cS; rintro r v1 ⟨rfl, hg⟩; have HV1 : Hid (Gr W v1) := (Gr.refl W).drewN _ |>.trans hg; clear hg; have x2b := HV1.out.cells x2)
          | (go_at_call 95; (with_reducible show Calls _ _ #[.int .u64 0, _] _ _); refine (c0 _).out.mono ?_; clear c0; rintro r v2 ⟨rfl, hg⟩; have HV2 : Hid (Gr W v2) := HV1.out.trans hg; clear hg)
          | (go_at_call 95; (with_reducible show Calls _ _ #[.int .u64 (v.size : Nat), _] _ _); refine (cV _).out.mono ?_; clear cV; rintro r v3 ⟨rfl, hg⟩; have HV3 : Hid (Gr W v3) := HV2.out.trans hg; clear hg))
        go_ret
        exact ⟨rfl, HW.out.trans HV3.out⟩
      · rw [if_pos h0] at hq
        subst hq
        have hne : ((c : Int) != 0) = true := by simp; omega
        go_enter Try.func80, Try.ntmps80
        go_wp2
        generalize (w.alloc (.cells #[.string k, .string v, .int .u32 (c : Nat), .int .u32 (l : Nat)] 59)) = W at *
        go_quiet (fail)
        go_wp2_with ((go_at_call 95; (with_reducible show Calls _ _ #[.int .u64 (k.size : Nat), _] _ _); refine (cS _).out.mono ?_; clear cS; rintro r v1 ⟨rfl, hg⟩; have HV1 : Hid (Gr W v1) := (Gr.refl W).drewN _ |>.trans hg; clear hg; have x2b := HV1.out.cells x2; have x3b := HV1.out.cells x3))
        go_region_held3 (fun w' => w'.cell? ⟨w.heap.size, 2, none⟩ = some (.int .u32 (c : Nat)) ∧ w'.cell? ⟨w.heap.size, 3, none⟩ = some (.int .u32 (l : Nat))) (first | exact ⟨x2b, x3b⟩ | exact HQ.out | assumption)
          (first
            | (go_at_call 95; (with_reducible show Calls _ _ #[.int .u64 1, _] _ _); refine (c1 _).out.mono ?_; clear c1; rintro r v2 ⟨rfl, hg⟩; have HV2 : Hid (Gr W v2) := HV1.out.drew.trans hg; clear hg; have HQ := Lib.hid (And.intro (HV2.out.cells x2) (HV2.out.cells x3)))
            | (go_at_call 95; (with_reducible show Calls _ _ #[.int .u64 (c : Nat), _] _ _); refine (cC _).out.mono ?_; clear cC; rintro r v3 ⟨rfl, hg⟩; have HV3 : Hid (Gr W v3) := HV2.out.trans hg; clear hg; have HQ := Lib.hid (And.intro (HV3.out.cells x2) (HV3.out.cells x3)))
            | (go_at_call 95; (with_reducible show Calls _ _ #[.int .u64 (l : Nat), _] _ _); refine (cL _).out.mono ?_; clear cL; rintro r v4 ⟨rfl, hg⟩; have HV4 : Hid (Gr W v4) := HV3.out.trans hg; clear hg; have HQ := Lib.hid (And.intro (HV4.out.cells x2) (HV4.out.cells x3))))
        go_wp2
        go_ret
        exact ⟨rfl, HW.out.trans HV4.out⟩
  · have hkn : (255 : Int) < (k.size : Int) := by omega
    have hkn2 : (255 : Int) ≤ (k.size : Int) := by omega
    cases leaf with
    | false =>
      have hq := HRC.out
      simp only [Bool.false_eq_true, if_false] at hq
      subst hq
      go_enter Try.func80, Try.ntmps80
      go_wp2
      generalize (w.alloc (.cells #[.string k, .string v, .int .u32 (c : Nat), .int .u32 (l : Nat)] 59)) = W at *
      go_quiet (fail)
      go_wp2_with (first
        | (go_at_call 95; (with_reducible show Calls _ _ #[.int .u64 (ck.size : Nat), _] _ _); refine (cS _).out.mono ?_; clear cS; rintro r v1 ⟨rfl, hg⟩; have HV1 : Hid (Gr W v1) := (Gr.refl W).drewN _ |>.trans hg; clear hg; have x2b := HV1.out.cells x2; have x3b := HV1.out.cells x3)
        | (go_at_call 95; (with_reducible show Calls _ _ #[.int .u64 (c : Nat), _] _ _); refine (cC _).out.mono ?_; clear cC; rintro r v2 ⟨rfl, hg⟩; have HV2 : Hid (Gr W v2) := HV1.out.trans hg; clear hg))
      go_ret
      exact ⟨rfl, HW.out.trans HV2.out⟩
    | true =>
      have hq := HRC.out
      simp only [if_true] at hq
      by_cases h0 : c = 0
      · subst h0
        simp only [ne_eq, not_true_eq_false, if_false] at hq
        subst hq
        simp only [e00] at *
        go_enter Try.func80, Try.ntmps80
        go_wp2
        generalize (w.alloc (.cells #[.string k, .string v, .int .u32 0, .int .u32 (l : Nat)] 59)) = W at *
        go_quiet (fail)
        go_wp2_with (first
          | (go_at_call 95; (with_reducible show Calls _ _ #[.int .u64 (ck.size : Nat), _] _ _); refine (cS _).out.mono ?_; clear cS; rintro r v1 ⟨rfl, hg⟩; have HV1 : Hid (Gr W v1) := (Gr.refl W).drewN _ |>.trans hg; clear hg; have x2b := HV1.out.cells x2)
          | (go_at_call 95; (with_reducible show Calls _ _ #[.int .u64 0, _] _ _); refine (c0 _).out.mono ?_; clear c0; rintro r v2 ⟨rfl, hg⟩; have HV2 : Hid (Gr W v2) := HV1.out.trans hg; clear hg)
          | (go_at_call 95; (with_reducible show Calls _ _ #[.int .u64 (v.size : Nat), _] _ _); refine (cV _).out.mono ?_; clear cV; rintro r v3 ⟨rfl, hg⟩; have HV3 : Hid (Gr W v3) := HV2.out.trans hg; clear hg))
        go_ret
        exact ⟨rfl, HW.out.trans HV3.out⟩
      · rw [if_pos h0] at hq
        subst hq
        have hne : ((c : Int) != 0) = true := by simp; omega
        go_enter Try.func80, Try.ntmps80
        go_wp2
        generalize (w.alloc (.cells #[.string k, .string v, .int .u32 (c : Nat), .int .u32 (l : Nat)] 59)) = W at *
        go_quiet (fail)
        go_wp2_with ((go_at_call 95; (with_reducible show Calls _ _ #[.int .u64 (ck.size : Nat), _] _ _); refine (cS _).out.mono ?_; clear cS; rintro r v1 ⟨rfl, hg⟩; have HV1 : Hid (Gr W v1) := (Gr.refl W).drewN _ |>.trans hg; clear hg; have x2b := HV1.out.cells x2; have x3b := HV1.out.cells x3))
        go_region_held3 (fun w' => w'.cell? ⟨w.heap.size, 2, none⟩ = some (.int .u32 (c : Nat)) ∧ w'.cell? ⟨w.heap.size, 3, none⟩ = some (.int .u32 (l : Nat))) (first | exact ⟨x2b, x3b⟩ | exact HQ.out | assumption)
          (first
            | (go_at_call 95; (with_reducible show Calls _ _ #[.int .u64 1, _] _ _); refine (c1 _).out.mono ?_; clear c1; rintro r v2 ⟨rfl, hg⟩; have HV2 : Hid (Gr W v2) := HV1.out.drew.trans hg; clear hg; have HQ := Lib.hid (And.intro (HV2.out.cells x2) (HV2.out.cells x3)))
            | (go_at_call 95; (with_reducible show Calls _ _ #[.int .u64 (c : Nat), _] _ _); refine (cC _).out.mono ?_; clear cC; rintro r v3 ⟨rfl, hg⟩; have HV3 : Hid (Gr W v3) := HV2.out.trans hg; clear hg; have HQ := Lib.hid (And.intro (HV3.out.cells x2) (HV3.out.cells x3)))
            | (go_at_call 95; (with_reducible show Calls _ _ #[.int .u64 (l : Nat), _] _ _); refine (cL _).out.mono ?_; clear cL; rintro r v4 ⟨rfl, hg⟩; have HV4 : Hid (Gr W v4) := HV3.out.trans hg; clear hg; have HQ := Lib.hid (And.intro (HV4.out.cells x2) (HV4.out.cells x3))))
        go_wp2
        go_ret
        exact ⟨rfl, HW.out.trans HV4.out⟩
end Go.Proofs.Ytmpmfgkabjedpaa
namespace Go.Proofs.Ytmpmfgkabjedpaa
open Go.RowKit
set_option linter.unusedVariables false
set_option linter.unusedSimpArgs false
abbrev SL (a b : ByteArray) : Bool := Op.bytesLess a.toList b.toList
theorem bl_total (x y : List UInt8) : (Op.bytesLess y x || y == x) = !Op.bytesLess x y := by
  rw [Go.Proofs.bytesLess_eq, Go.Proofs.bytesLess_eq]
  by_cases h1 : x < y
  · have h2 : ¬ y < x := fun h => List.lt_irrefl x (List.lt_trans h1 h)
    have h3 : ¬ y = x := fun h => by subst h; exact List.lt_irrefl _ h1
    simp [h1, h2, h3]
  · by_cases h3 : y = x
    · subst h3; simp [h1]
    · have h2 : y < x := by
        rcases List.le_iff_lt_or_eq.1 (List.not_lt.1 h1) with h | h
        · exact h
        · exact absurd h h3
      simp [h1, h2]
open Classical in
noncomputable def rErr {α : Type} (bad : α → Bool) (key : α → ByteArray) (xs : List α) : Int :=
  if ∃ x ∈ xs, bad x = true then 5 else if ∃ i a b, xs[i]? = some a ∧ xs[i + 1]? = some b ∧ SL (key a) (key b) = false then 30 else 0
theorem rErr_bad {α : Type} {bad : α → Bool} {key : α → ByteArray} {xs : List α} {x : α} (h : x ∈ xs) (hb : bad x = true) : rErr bad key xs = 5 := by
  unfold rErr; rw [if_pos ⟨x, h, hb⟩]
theorem rErr_ord {α : Type} {bad : α → Bool} {key : α → ByteArray} {xs : List α} (h : ∀ x ∈ xs, bad x = false) {i : Nat} {a b : α} (ha : xs[i]? = some a) (hb : xs[i + 1]? = some b) (ho : SL (key a) (key b) = false) : rErr bad key xs = 30 := by
  unfold rErr
  rw [if_neg, if_pos ⟨i, a, b, ha, hb, ho⟩]
  rintro ⟨x, hx, hb⟩
  rw [h x hx] at hb; cases hb
theorem rErr_ok {α : Type} {bad : α → Bool} {key : α → ByteArray} {xs : List α} (h : ∀ x ∈ xs, bad x = false) (ho : ∀ i a b, xs[i]? = some a → xs[i + 1]? = some b → SL (key a) (key b) = true) : rErr bad key xs = 0 := by
  unfold rErr
  rw [if_neg, if_neg]
  · rintro ⟨i, a, b, h1, h2, h3⟩
    rw [ho i a b h1 h2] at h3; cases h3
  · rintro ⟨x, hx, hb⟩
    rw [h x hx] at hb; cases hb
def ceBad (x : Ce) : Bool := decide (255 < x.1.size) || !ceFits x.2.1 x.2.2.1
def keyBad {α : Type} (x : ByteArray × α) : Bool := decide (255 < x.1.size)
end Go.Proofs.Ytmpmfgkabjedpaa
