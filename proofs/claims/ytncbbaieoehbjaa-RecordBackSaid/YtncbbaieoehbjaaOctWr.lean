/- Layer 3: numbers and texts written, the program's and the reference's. -/
import Derived.Test.YtncbbaieoehbjaaOctText
namespace Go.Proofs.Ytncbbaieoehbjaa
open Go.RowKit
set_option linter.unusedVariables false
set_option linter.unusedSimpArgs false
set_option maxHeartbeats 400000
def Oct.text (s : ByteArray) : ByteArray := B (Oct.be s.size 4) ++ s
theorem Oct.text_size (s : ByteArray) : (Oct.text s).size = s.size + 4 := by
  unfold Oct.text
  rw [ByteArray.size_append, B_size, Oct.be_length]; omega
theorem Oct.u16' (n : Nat) (h : n < 65536) : IntKind.u64.wrap (n : Int) = (n : Int) := wrap_u64_of n (by unfold U64; omega)
theorem Oct.u32' (n : Nat) (h : n < 4294967296) : IntKind.u64.wrap (n : Int) = (n : Int) := wrap_u64_of n (by unfold U64; omega)
theorem oct_one (n : Nat) (hn : n < 256) (w : World) :
    Calls Try.prog 74 #[.int .u8 n] w fun x w' => x = .returned (.string (B (Oct.be n 1))) ∧ Gr w w' := by
  have HT := Lib.hid (oct_big n (by unfold U64; omega) 1 (by omega) w)
  have c1 := Oct.u16' n (by omega)
  clear hn
  go_enter Try.func74, Try.ntmps74
  go_wp2_with (go_at_call 78; refine HT.out.mono ?_; rintro x w1 ⟨rfl, hg⟩)
  go_ret
  exact ⟨rfl, hg⟩
theorem oct_two (n : Nat) (hn : n < 65536) (w : World) :
    Calls Try.prog 22 #[.int .u16 n] w fun x w' => x = .returned (.string (B (Oct.be n 2))) ∧ Gr w w' := by
  have HT := Lib.hid (oct_big n (by unfold U64; omega) 2 (by omega) w)
  have c1 := Oct.u16' n hn
  clear hn
  go_enter Try.func22, Try.ntmps22
  go_wp2_with (go_at_call 78; refine HT.out.mono ?_; rintro x w1 ⟨rfl, hg⟩)
  go_ret
  exact ⟨rfl, hg⟩
theorem oct_four (n : Nat) (hn : n < 4294967296) (w : World) :
    Calls Try.prog 59 #[.int .u32 n] w fun x w' => x = .returned (.string (B (Oct.be n 4))) ∧ Gr w w' := by
  have HT := Lib.hid (oct_big n (by unfold U64; omega) 4 (by omega) w)
  have c1 := Oct.u32' n hn
  clear hn
  go_enter Try.func59, Try.ntmps59
  go_wp2_with (go_at_call 78; refine HT.out.mono ?_; rintro x w1 ⟨rfl, hg⟩)
  go_ret
  exact ⟨rfl, hg⟩
theorem oct_eight (n : Nat) (hn : U64 n) (w : World) :
    Calls Try.prog 60 #[.int .u64 n] w fun x w' => x = .returned (.string (B (Oct.be n 8))) ∧ Gr w w' := by
  have HT := Lib.hid (oct_big n hn 8 (by omega) w)
  clear hn
  go_enter Try.func60, Try.ntmps60
  go_wp2_with (go_at_call 78; refine HT.out.mono ?_; rintro x w1 ⟨rfl, hg⟩)
  go_ret
  exact ⟨rfl, hg⟩
theorem oct_text (s : ByteArray) (hs : s.size ≤ 4611686018427387904) (w : World) :
    Calls Try.prog 61 #[.string s] w fun x w' => x = .returned (.string (Oct.text s)) ∧ Gr w w' := by
  have c1 : IntKind.u32.wrap (s.size : Int) = ((s.size % 4294967296 : Nat) : Int) := by rw [IntKind.wrap_u32']; rfl
  have HT := Lib.hid (oct_four (s.size % 4294967296) (by omega) w)
  have HE : Hid (Oct.be (s.size % 4294967296) 4 = Oct.be s.size 4) := Oct.be_mod s.size 4
  have hz := B_be_size (s.size % 4294967296) 4
  generalize s.size % 4294967296 = m at *
  rw [HE.out] at HT hz
  go_enter Try.func61, Try.ntmps61
  go_wp2_with (first
    | (go_at_call 59; refine HT.out.mono ?_; rintro x w1 ⟨rfl, hg⟩))
  go_ret
  exact ⟨rfl, hg⟩
theorem ref_text (s : ByteArray) (hs : s.size ≤ 4611686018427387904) (w : World) :
    Calls Try.prog 66 #[.string s] w fun x w' => x = .returned (.string (Oct.text s)) ∧ Gr w w' := by
  have c1 := wrap_u64_of s.size (by unfold U64; omega)
  have HT := Lib.hid (ref_big s.size (by unfold U64; omega) 4 (by omega) w)
  have hz := B_be_size s.size 4
  go_enter Try.func66, Try.ntmps66
  go_wp2_with (first
    | (go_at_call 18; refine HT.out.mono ?_; rintro x w1 ⟨rfl, hg⟩))
  go_ret
  exact ⟨rfl, hg⟩
theorem oct_over (s : ByteArray) (w : World) :
    Calls Try.prog 71 #[.string s] w fun x w' => x = .returned (.pointer (some ⟨w.heap.size, 0, none⟩)) ∧ RdAt w' w.heap.size s 0 ∧ Gr w w' := by
  go_enter Try.func71, Try.ntmps71
  go_wp2
  go_ret
  exact ⟨rfl, RdAt.new _ _ _ _, (Gr.refl w).alloc _⟩
end Go.Proofs.Ytncbbaieoehbjaa
