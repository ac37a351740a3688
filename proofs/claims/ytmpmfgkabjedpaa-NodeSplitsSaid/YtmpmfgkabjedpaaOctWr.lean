/- Layer 3: numbers and texts written, the program's and the reference's. -/
import Derived.Test.YtmpmfgkabjedpaaOctText
namespace Go.Proofs.Ytmpmfgkabjedpaa
open Go.RowKit
set_option linter.unusedVariables false
set_option linter.unusedSimpArgs false
set_option maxHeartbeats 400000
def Oct.text (s : ByteArray) : ByteArray := B (Oct.be s.size 4) ++ s
theorem Oct.text_size (s : ByteArray) : (Oct.text s).size = s.size + 4 := by
  unfold Oct.text
  rw [ByteArray.size_append, B_size, Oct.be_length]; omega
theorem Oct.u16' (n : Nat) (h : n < 65536) : IntKind.u64.wrap (n : Int) = (n : Int) := wrap_u64_of n (by unfold U64; omega)
theorem Oct.u32' (n : Nat) (h : n < 4294967296) : IntKind.u64.wrap (n : Int) = (n : Int) := wrap_u64_of n (by unfold U64; omega)
theorem oct_one (n : Nat) (hn : n < 256) (w : World) :
    Calls Try.prog 108 #[.int .u8 n] w fun x w' => x = .returned (.string (B (Oct.be n 1))) ∧ Gr w w' := by
  have HT := Lib.hid (oct_big n (by unfold U64; omega) 1 (by omega) w)
  have c1 := Oct.u16' n (by omega)
  clear hn
  go_enter Try.func108, Try.ntmps108
  go_wp2_with (go_at_call 113; refine HT.out.mono ?_; rintro x w1 ⟨rfl, hg⟩)
  go_ret
  exact ⟨rfl, hg⟩
theorem oct_two (n : Nat) (hn : n < 65536) (w : World) :
    Calls Try.prog 89 #[.int .u16 n] w fun x w' => x = .returned (.string (B (Oct.be n 2))) ∧ Gr w w' := by
  have HT := Lib.hid (oct_big n (by unfold U64; omega) 2 (by omega) w)
  have c1 := Oct.u16' n hn
  clear hn
  go_enter Try.func89, Try.ntmps89
  go_wp2_with (go_at_call 113; refine HT.out.mono ?_; rintro x w1 ⟨rfl, hg⟩)
  go_ret
  exact ⟨rfl, hg⟩
theorem oct_four (n : Nat) (hn : n < 4294967296) (w : World) :
    Calls Try.prog 75 #[.int .u32 n] w fun x w' => x = .returned (.string (B (Oct.be n 4))) ∧ Gr w w' := by
  have HT := Lib.hid (oct_big n (by unfold U64; omega) 4 (by omega) w)
  have c1 := Oct.u32' n hn
  clear hn
  go_enter Try.func75, Try.ntmps75
  go_wp2_with (go_at_call 113; refine HT.out.mono ?_; rintro x w1 ⟨rfl, hg⟩)
  go_ret
  exact ⟨rfl, hg⟩
theorem oct_over (s : ByteArray) (w : World) :
    Calls Try.prog 96 #[.string s] w fun x w' => x = .returned (.pointer (some ⟨w.heap.size, 0, none⟩)) ∧ RdAt w' w.heap.size s 0 ∧ Gr w w' := by
  go_enter Try.func96, Try.ntmps96
  go_wp2
  go_ret
  exact ⟨rfl, RdAt.new _ _ _ _, (Gr.refl w).alloc _⟩
end Go.Proofs.Ytmpmfgkabjedpaa
