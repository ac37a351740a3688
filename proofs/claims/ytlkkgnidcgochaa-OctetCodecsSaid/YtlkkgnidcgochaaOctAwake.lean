/- The chapter's example of layer 3. -/
import Derived.Test.YtlkkgnidcgochaaOctWr
namespace Go.Proofs.Ytlkkgnidcgochaa
open Go.RowKit
set_option linter.unusedVariables false
set_option linter.unusedSimpArgs false
set_option maxHeartbeats 400000
theorem Oct.be258 : Oct.be 258 4 = [0, 0, 1, 2] := by decide
theorem Oct.rd258 : rdNum (B [0, 0, 1, 2]) 0 4 = (258, ByteArray.empty, 0) := by
  have h : rdTake (B [0, 0, 1, 2]) 0 4 = ((B [0, 0, 1, 2]).extract 0 4, (B [0, 0, 1, 2]).extract 4 4, 0) := rfl
  unfold rdNum
  rw [show ((4 : Nat) : Int) = 4 from rfl, h]
  decide
theorem Oct.end258 : rdEnd ByteArray.empty 0 = 0 := rfl
@[go_sem] theorem B_toList (l : List UInt8) : (B l).toList = l := ByteArray.toList_mk l
theorem law03_awake (w : World) :
    Calls Try.prog 21 #[] w fun e w' => e = .returned (.bool true) ∧ Gr w w' := by
  have H4 := fun w1 => Lib.hid (oct_four 258 (by omega) w1)
  rw [Oct.be258] at H4
  go_enter Try.func21, Try.ntmps21
  go_wp2_with (first
    | (go_at_call 29; refine (oct_over (B [0, 0, 1, 2]) _).mono ?_; rintro e w1 ⟨rfl, hr, hg⟩)
    | (go_at_call 25; refine (H4 _).out.mono ?_; rintro e w2 ⟨rfl, hg2⟩; have h2 := Lib.hid (And.intro (hr.gr hg2) (hg.trans hg2)); clear hr hg hg2)
    | (go_at_call 33; refine (oct_rdfour w.heap.size (B [0, 0, 1, 2]) (by decide) 0 _ (by exact h2.out.1)).mono ?_; rw [Oct.rd258]; rintro e w3 ⟨rfl, hr3, hc3⟩)
    | (go_at_call 35; refine (oct_end w.heap.size ByteArray.empty 0 _ (by exact hr3)).mono ?_; rw [Oct.end258]; rintro e w4 ⟨rfl, rfl⟩))
  go_ret
  exact ⟨rfl, hc3.gr h2.out.2 (Nat.le_refl _)⟩
end Go.Proofs.Ytlkkgnidcgochaa
