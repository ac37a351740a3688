/- Layer 19: numbers of two bytes: a list of them, its bytes. -/
import Derived.Test.YtncbbaieoehbjaaRecTw
import Derived.Test.YtncbbaieoehbjaaBuilder2
import Derived.Test.YtncbbaieoehbjaaShelf
import Derived.Test.YtncbbaieoehbjaaOpen
namespace Go.Proofs.Ytncbbaieoehbjaa
open Go.RowKit
set_option linter.unusedVariables false
set_option linter.unusedSimpArgs false
set_option maxRecDepth 100000
set_option maxHeartbeats 1000000
theorem bld_string (B0 b : Nat) (l : List UInt8) (w : World) (h : Bld w B0 b l) :
    Calls Try.prog 82 #[.pointer (some ⟨b, 0, none⟩)] w fun e w' => e = .returned (.string (B l)) ∧ Below B0 w w' :=
  Try.Builder_String_any B0 b l w h (by have := h.lt; omega)
def twBytes (x : Nat) : ByteArray := B (Oct.be 1 1) ++ B (Oct.be x 2)
def flatW (xs : List Nat) : List UInt8 := xs.flatMap fun x => (twBytes x).data.toList
theorem flatW_snoc (xs : List Nat) (k : Nat) (h : k < xs.length) : flatW (xs.take (k + 1)) = flatW (xs.take k) ++ (twBytes xs[k]).data.toList := by
  unfold flatW
  rw [List.take_succ_eq_append_getElem h, List.flatMap_append]
  simp
theorem twBytes_size (x : Nat) : (twBytes x).size = 3 := by
  unfold twBytes
  rw [ByteArray.size_append, B_be_size, B_be_size]
theorem flatW_len (xs : List Nat) : (flatW xs).length = xs.length * 3 := by
  unfold flatW
  induction xs with
  | nil => simp
  | cons x xs ih =>
    rw [List.flatMap_cons, List.length_append, List.length_cons, Nat.succ_mul, ih]
    have h3 : (twBytes x).data.toList.length = (twBytes x).size := by simp
    rw [twBytes_size] at h3
    omega
theorem tw_list (b1 b2 : Nat) (A : Option Addr) (cap : Nat) (xs : List Nat) (hcap : xs.length ≤ cap) (hcm : cap ≤ maxLen) (hl : xs.length ≤ 4000) (hx : ∀ x ∈ xs, x < 65536) (w : World) (hb1 : w.cell? ⟨b1, 0, none⟩ = some (.func (.func 22) #[] #[])) (hb2 : w.cell? ⟨b2, 0, none⟩ = some (.func (.func 23) #[] #[])) (hsl : SliceAt w A 1 u16Cell xs) :
    Calls Try.prog 27 #[.agg #[.func (.func 73) #[] #[.pointer (some ⟨b1, 0, none⟩)], .func (.func 75) #[] #[.pointer (some ⟨b2, 0, none⟩)]], .slice A xs.length cap] w fun r w' => r = .returned (.string (B (Oct.be xs.length 4 ++ flatW xs))) ∧ Gr w w' := by
  unfold maxLen at hcm
  have HX := Lib.hid (And.intro hsl hx)
  have HBB := Lib.hid (And.intro hb1 hb2)
  clear hsl hx hb1 hb2
  have c1 : IntKind.u32.wrap (xs.length : Int) = (xs.length : Int) := Oct.conv32 _ (by omega)
  have c2 := fun w1 => Lib.hid (oct_four xs.length (by omega) w1)
  have hz := B_be_size xs.length 4
  have HL : Hid ((B (Oct.be xs.length 4)).data.toList = Oct.be xs.length 4) := rfl
  generalize B (Oct.be xs.length 4) = h4 at *
  go_enter Try.func27, Try.ntmps27
  have HB0 := Lib.hid (Bld.new (w.alloc (.cells #[.func (.func 73) #[] #[.pointer (some ⟨b1, 0, none⟩)], .func (.func 75) #[] #[.pointer (some ⟨b2, 0, none⟩)]] 55)))
  have HC0 := Lib.hid (heap_alloc_last w (.cells #[.func (.func 73) #[] #[.pointer (some ⟨b1, 0, none⟩)], .func (.func 75) #[] #[.pointer (some ⟨b2, 0, none⟩)]] 55))
  go_wp2_with (first
    | (go_at_call 59; refine (c2 _).out.mono ?_; rintro r v1 ⟨rfl, hg⟩)
    | (go_at_call 81; refine (bld_put (w.heap.size + 1) (w.heap.size + 1) [] h4 _ (by have h := HB0.out; rw [alloc_size] at h; exact h.gr hg) (by rw [hz]; simp)).mono ?_; rintro r v2 ⟨rfl, hb, hbel⟩))
  have HG0 : Hid (Gr w ((w.alloc (.cells #[.func (.func 73) #[] #[.pointer (some ⟨b1, 0, none⟩)], .func (.func 75) #[] #[.pointer (some ⟨b2, 0, none⟩)]] 55)).alloc (.cells #[.pointer none, .slice none 0 0] 144))) := ((Gr.refl w).alloc _).alloc _
  have hrow : v2.heap[w.heap.size]? = some (.cells #[.func (.func 73) #[] #[.pointer (some ⟨b1, 0, none⟩)], .func (.func 75) #[] #[.pointer (some ⟨b2, 0, none⟩)]] 55 (0, 0)) := by
    rw [hbel.block _ (Nat.lt_succ_self _), hg.block (k := w.heap.size) (by rw [alloc_size, alloc_size]; omega), ((Gr.refl _).alloc _ |>.block (k := w.heap.size) (by rw [alloc_size]; omega))]
    exact HC0.out
  have HV : Hid (Bld v2 (w.heap.size + 1) (w.heap.size + 1) (Oct.be xs.length 4 ++ flatW (xs.take 0)) ∧ v2.heap[w.heap.size]? = some (.cells #[.func (.func 73) #[] #[.pointer (some ⟨b1, 0, none⟩)], .func (.func 75) #[] #[.pointer (some ⟨b2, 0, none⟩)]] 55 (0, 0)) ∧ Gr w v2) :=
    ⟨by rw [List.nil_append, HL.out] at hb; simpa [flatW] using hb, hrow, below_gr hbel (HG0.out.trans hg) (Nat.le_succ _)⟩
  clear hg hb hbel hrow HG0 HC0 HB0 HL
  go_loopw [15] (fun i wr => ∃ k : Nat, k ≤ xs.length ∧ i = .int .i64 k ∧ Hid (Bld wr (w.heap.size + 1) (w.heap.size + 1) (Oct.be xs.length 4 ++ flatW (xs.take k)) ∧ wr.heap[w.heap.size]? = some (.cells #[.func (.func 73) #[] #[.pointer (some ⟨b1, 0, none⟩)], .func (.func 75) #[] #[.pointer (some ⟨b2, 0, none⟩)]] 55 (0, 0)) ∧ Gr w wr)) (fun i _ => xs.length - (intOf i).toNat)
  case atStart => exact ⟨0, by omega, rfl, HV⟩
  case round =>
    obtain ⟨k, hk, rfl, HR⟩ := hrel
    by_cases hlt : k < xs.length
    · rcases HX.out.1 with h0 | ⟨a, off, rfl, hcell⟩
      · subst h0; simp at hlt
      · have hc0 := HR.out.2.2.cells (hcell k xs[k] (List.getElem?_eq_getElem hlt) 0 _ rfl)
        have HK := Lib.hid hcell
        clear hcell
        simp only [Nat.add_zero, Nat.mul_one] at hc0
        have HP := Lib.hid (HX.out.2 xs[k] (List.getElem_mem hlt))
        have HS := Lib.hid (flatW_snoc xs k hlt)
        have HLN : Hid ((flatW (xs.take k)).length ≤ 4000 * 3) := by
          rw [flatW_len, List.length_take]
          exact Nat.mul_le_mul (by omega) (Nat.le_refl _)
        generalize xs[k] = n at *
        have hzz := Lib.hid (twBytes_size n)
        have C3 := fun v w1 h => Lib.hid (tw_bytes n HP.out v w1 h)
        rw [show B (Oct.be 1 1) ++ B (Oct.be n 2) = twBytes n from rfl] at C3
        generalize twBytes n = q at *
        obtain ⟨p0, p1, _, _⟩ := At2.of_row HR.out.2.1
        go_wp2_with (first
          | (go_at_call 25; refine (C3 _ _ ⟨b1, b2, rfl, HR.out.2.2.cells HBB.out.1, HR.out.2.2.cells HBB.out.2⟩).out.mono ?_; rintro r v3 ⟨rfl, hg⟩)
          | (go_at_call 81; refine (bld_put (w.heap.size + 1) (w.heap.size + 1) (Oct.be xs.length 4 ++ flatW (xs.take k)) q _ (by exact HR.out.1.gr hg) (by have h1 := HLN.out; have h2 := hzz.out; rw [List.length_append, Oct.be_length]; omega)).mono ?_; rintro r v4 ⟨rfl, hb, hbel⟩))
        have HF : Hid (wr.heap.size ≤ v3.heap.size ∧ w.heap.size < wr.heap.size) := ⟨hg.size, by have := HR.out.1.lt; omega⟩
        have HT : Hid (Bld v4 (w.heap.size + 1) (w.heap.size + 1) (Oct.be xs.length 4 ++ flatW (xs.take (k + 1))) ∧ v4.heap[w.heap.size]? = some (.cells #[.func (.func 73) #[] #[.pointer (some ⟨b1, 0, none⟩)], .func (.func 75) #[] #[.pointer (some ⟨b2, 0, none⟩)]] 55 (0, 0)) ∧ Gr w v4) := by
          refine ⟨by rw [HS.out, ← List.append_assoc]; exact hb, ?_, below_gr hbel (HR.out.2.2.trans hg) (Nat.le_succ _)⟩
          rw [hbel.block _ (Nat.lt_succ_self _), hg.block (k := w.heap.size) HF.out.2]
          exact HR.out.2.1
        go_roundw
        case rel => exact ⟨k + 1, by omega, by go_num, HT⟩
        case measure => simp [intOf]; omega
    · obtain rfl : k = xs.length := by omega
      go_wp2_with (go_at_call 82; refine (bld_string _ _ _ _ HR.out.1).mono ?_; rintro r v3 ⟨rfl, hbel⟩)
      go_ret
      exact ⟨rfl, below_gr hbel HR.out.2.2 (Nat.le_succ _)⟩
end Go.Proofs.Ytncbbaieoehbjaa
