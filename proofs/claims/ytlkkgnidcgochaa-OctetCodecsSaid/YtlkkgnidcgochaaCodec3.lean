/- Layer 3: a codec's list: its bytes. -/
import Derived.Test.YtlkkgnidcgochaaCodec2
import Derived.Test.YtlkkgnidcgochaaBuilder2
import Derived.Test.YtlkkgnidcgochaaShelf
namespace Go.Proofs.Ytlkkgnidcgochaa
open Go.RowKit
set_option linter.unusedVariables false
set_option linter.unusedSimpArgs false
set_option maxRecDepth 100000
set_option maxHeartbeats 1000000
theorem bld_string (B0 b : Nat) (l : List UInt8) (w : World) (h : Bld w B0 b l) :
    Calls Try.prog 65 #[.pointer (some ⟨b, 0, none⟩)] w fun e w' => e = .returned (.string (B l)) ∧ Below B0 w w' :=
  Try.Builder_String_any B0 b l w h (by have := h.lt; omega)
def flatP (xs : List Pr) : List UInt8 := xs.flatMap fun x => (prBytes x).data.toList
theorem flatP_snoc (xs : List Pr) (k : Nat) (h : k < xs.length) : flatP (xs.take (k + 1)) = flatP (xs.take k) ++ (prBytes xs[k]).data.toList := by
  unfold flatP
  rw [List.take_succ_eq_append_getElem h, List.flatMap_append]
  simp
theorem prBytes_size (x : Pr) : (prBytes x).size = x.2.size + 6 := by
  unfold prBytes
  rw [ByteArray.size_append, B_be_size, Oct.text_size]; omega
theorem flatP_len (xs : List Pr) (n : Nat) (h : ∀ x ∈ xs, x.2.size ≤ n) : (flatP xs).length ≤ xs.length * (n + 6) := by
  unfold flatP
  induction xs with
  | nil => simp
  | cons x xs ih =>
    have h1 := h x (by simp)
    have h2 := ih fun y hy => h y (by simp [hy])
    rw [List.flatMap_cons, List.length_append, List.length_cons, Nat.succ_mul]
    have h3 : (prBytes x).data.toList.length = (prBytes x).size := by simp
    rw [prBytes_size] at h3
    omega
def goodP (x : Pr) : Prop := x.1 < 65536 ∧ x.2.size ≤ 2000
theorem cod_list (A : Option Addr) (cap : Nat) (xs : List Pr) (hcap : xs.length ≤ cap) (hcm : cap ≤ maxLen) (hl : xs.length ≤ 4000) (hx : ∀ x ∈ xs, goodP x) (w : World) (hsl : SliceAt w A 2 prCell xs) :
    Calls Try.prog 54 #[prC, .slice A xs.length cap] w fun r w' => r = .returned (.string (B (Oct.be xs.length 4 ++ flatP xs))) ∧ Gr w w' := by
  rw [prC_eq]
  unfold maxLen at hcm
  have HX := Lib.hid (And.intro hsl hx)
  clear hsl hx
  have c1 : IntKind.u32.wrap (xs.length : Int) = (xs.length : Int) := Oct.conv32 _ (by omega)
  have c2 := fun w1 => Lib.hid (oct_four xs.length (by omega) w1)
  have hz := B_be_size xs.length 4
  have HL : Hid ((B (Oct.be xs.length 4)).data.toList = Oct.be xs.length 4) := rfl
  generalize B (Oct.be xs.length 4) = h4 at *
  go_enter Try.func54, Try.ntmps54
  have HB0 := Lib.hid (Bld.new (w.alloc (.cells #[.func (.func 66) #[] #[], .func (.func 67) #[] #[]] 83)))
  have HC0 := Lib.hid (heap_alloc_last w (.cells #[.func (.func 66) #[] #[], .func (.func 67) #[] #[]] 83))
  go_wp2_with (first
    | (go_at_call 25; refine (c2 _).out.mono ?_; rintro r v1 ⟨rfl, hg⟩)
    | (go_at_call 64; refine (bld_put (w.heap.size + 1) (w.heap.size + 1) [] h4 _ (by have h := HB0.out; rw [alloc_size] at h; exact h.gr hg) (by rw [hz]; simp)).mono ?_; rintro r v2 ⟨rfl, hb, hbel⟩))
  have HG0 : Hid (Gr w ((w.alloc (.cells #[.func (.func 66) #[] #[], .func (.func 67) #[] #[]] 83)).alloc (.cells #[.pointer none, .slice none 0 0] 107))) := ((Gr.refl w).alloc _).alloc _
  have hrow : v2.heap[w.heap.size]? = some (.cells #[.func (.func 66) #[] #[], .func (.func 67) #[] #[]] 83 (0, 0)) := by
    rw [hbel.block _ (Nat.lt_succ_self _), hg.block (k := w.heap.size) (by rw [alloc_size, alloc_size]; omega), ((Gr.refl _).alloc _ |>.block (k := w.heap.size) (by rw [alloc_size]; omega))]
    exact HC0.out
  have HV : Hid (Bld v2 (w.heap.size + 1) (w.heap.size + 1) (Oct.be xs.length 4 ++ flatP (xs.take 0)) ∧ v2.heap[w.heap.size]? = some (.cells #[.func (.func 66) #[] #[], .func (.func 67) #[] #[]] 83 (0, 0)) ∧ Gr w v2) :=
    ⟨by rw [List.nil_append, HL.out] at hb; simpa [flatP] using hb, hrow, below_gr hbel (HG0.out.trans hg) (Nat.le_succ _)⟩
  clear hg hb hbel hrow HG0 HC0 HB0 HL
  go_loopw [15] (fun i wr => ∃ k : Nat, k ≤ xs.length ∧ i = .int .i64 k ∧ Hid (Bld wr (w.heap.size + 1) (w.heap.size + 1) (Oct.be xs.length 4 ++ flatP (xs.take k)) ∧ wr.heap[w.heap.size]? = some (.cells #[.func (.func 66) #[] #[], .func (.func 67) #[] #[]] 83 (0, 0)) ∧ Gr w wr)) (fun i _ => xs.length - (intOf i).toNat)
  case atStart => exact ⟨0, by omega, rfl, HV⟩
  case round =>
    obtain ⟨k, hk, rfl, HR⟩ := hrel
    by_cases hlt : k < xs.length
    · rcases HX.out.1 with h0 | ⟨a, off, rfl, hcell⟩
      · subst h0; simp at hlt
      · have hc0 := HR.out.2.2.cells (hcell k xs[k] (List.getElem?_eq_getElem hlt) 0 _ rfl)
        have hc1 := HR.out.2.2.cells (hcell k xs[k] (List.getElem?_eq_getElem hlt) 1 _ rfl)
        have HK := Lib.hid hcell
        clear hcell
        simp only [Nat.add_zero] at hc0
        have HP := Lib.hid (HX.out.2 xs[k] (List.getElem_mem hlt))
        have HS := Lib.hid (flatP_snoc xs k hlt)
        have HLN : Hid ((flatP (xs.take k)).length ≤ 4000 * 2006) := by
          refine Nat.le_trans (flatP_len _ 2000 fun y hy => (HX.out.2 y (List.mem_of_mem_take hy)).2) ?_
          rw [List.length_take]
          exact Nat.mul_le_mul (by omega) (Nat.le_refl _)
        generalize xs[k] = x at *
        obtain ⟨n, s⟩ := x
        have hzz : Hid ((prBytes (n, s)).size ≤ 2006) := by have := prBytes_size (n, s); have := HP.out.2; unfold Hid; simp only at *; omega
        have C3 := fun w1 => Lib.hid (cod_bytes (n, s) HP.out.1 (by have := HP.out.2; omega) w1)
        generalize prBytes (n, s) = q at *
        obtain ⟨p0, p1, _, _⟩ := At2.of_row (((Gr.refl wr).alloc (.cells #[.int .u16 (n : Nat), .string s] 87)).block (k := w.heap.size) (by have := HR.out.1.lt; omega) |>.trans HR.out.2.1)
        rw [prC_eq] at C3
        simp only at C3
        go_wp2_with (first
          | (go_at_call 68; refine (C3 _).out.mono ?_; rintro r v3 ⟨rfl, hg⟩)
          | (go_at_call 64; refine (bld_put (w.heap.size + 1) (w.heap.size + 1) (Oct.be xs.length 4 ++ flatP (xs.take k)) q _ (by exact (HR.out.1.gr ((Gr.refl wr).alloc _)).gr hg) (by have h1 := HLN.out; have h2 := hzz.out; rw [List.length_append, Oct.be_length]; omega)).mono ?_; rintro r v4 ⟨rfl, hb, hbel⟩))
        have HF : Hid (wr.heap.size + 1 ≤ v3.heap.size ∧ w.heap.size < wr.heap.size) := by
          have h1 := hg.size
          rw [alloc_size] at h1
          exact ⟨h1, by have := HR.out.1.lt; omega⟩
        have HT : Hid (Bld v4 (w.heap.size + 1) (w.heap.size + 1) (Oct.be xs.length 4 ++ flatP (xs.take (k + 1))) ∧ v4.heap[w.heap.size]? = some (.cells #[.func (.func 66) #[] #[], .func (.func 67) #[] #[]] 83 (0, 0)) ∧ Gr w v4) := by
          refine ⟨by rw [HS.out, ← List.append_assoc]; exact hb, ?_, below_gr hbel ((HR.out.2.2.alloc _).trans hg) (Nat.le_succ _)⟩
          rw [hbel.block _ (Nat.lt_succ_self _), hg.block (k := w.heap.size) (by rw [alloc_size]; have := HF.out.2; omega), ((Gr.refl wr).alloc _ |>.block (k := w.heap.size) HF.out.2)]
          exact HR.out.2.1
        go_roundw
        case rel => exact ⟨k + 1, by omega, by go_num, HT⟩
        case measure => simp [intOf]; omega
    · obtain rfl : k = xs.length := by omega
      go_wp2_with (go_at_call 65; refine (bld_string _ _ _ _ HR.out.1).mono ?_; rintro r v3 ⟨rfl, hbel⟩)
      go_ret
      exact ⟨rfl, below_gr hbel HR.out.2.2 (Nat.le_succ _)⟩
end Go.Proofs.Ytlkkgnidcgochaa
