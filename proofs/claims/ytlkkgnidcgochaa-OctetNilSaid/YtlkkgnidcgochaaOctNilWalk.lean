/- The law OctetNil, walked: a reader that is none. -/
import Derived.Test.YtlkkgnidcgochaaOctAwake
namespace Go.Proofs.Ytlkkgnidcgochaa
open Go.RowKit
set_option linter.unusedVariables false
set_option linter.unusedSimpArgs false
set_option maxHeartbeats 1000000
theorem octnil_take (n : Int) (w : World) : Calls Try.prog 37 #[.pointer none, .int .i64 n] w fun x w' => x = .returned (.string ByteArray.empty) ∧ w = w' := by
  go_enter Try.func37, Try.ntmps37
  go_wp2
  go_ret
  exact ⟨rfl, rfl⟩
theorem octnil_number (n : Int) (w : World) : Calls Try.prog 62 #[.pointer none, .int .i64 n] w fun x w' => x = .returned (.int .u64 0) ∧ w = w' := by
  go_enter Try.func62, Try.ntmps62
  go_wp2_with (go_at_call 37; refine (octnil_take _ _).mono ?_; rintro x w1 ⟨rfl, rfl⟩)
  go_loop [5, 13] (fun x i => x = .int .u64 0 ∧ i = .int .i64 0) (fun _ _ => 0)
  case atStart => exact ⟨rfl, rfl⟩
  case round =>
    obtain ⟨rfl, rfl⟩ := hrel
    go_wp2
    go_ret
    exact ⟨rfl, rfl⟩
theorem octnil_one (w : World) : Calls Try.prog 30 #[.pointer none] w fun x w' => x = .returned (.int .u8 0) ∧ w = w' := by
  go_enter Try.func30, Try.ntmps30
  go_wp2_with (go_at_call 62; refine (octnil_number _ _).mono ?_; rintro x w1 ⟨rfl, rfl⟩)
  go_ret
  exact ⟨rfl, rfl⟩
theorem octnil_four (w : World) : Calls Try.prog 33 #[.pointer none] w fun x w' => x = .returned (.int .u32 0) ∧ w = w' := by
  go_enter Try.func33, Try.ntmps33
  go_wp2_with (go_at_call 62; refine (octnil_number _ _).mono ?_; rintro x w1 ⟨rfl, rfl⟩)
  go_ret
  exact ⟨rfl, rfl⟩
theorem octnil_eight (w : World) : Calls Try.prog 34 #[.pointer none] w fun x w' => x = .returned (.int .u64 0) ∧ w = w' := by
  go_enter Try.func34, Try.ntmps34
  go_wp2_with (go_at_call 62; refine (octnil_number _ _).mono ?_; rintro x w1 ⟨rfl, rfl⟩)
  go_ret
  exact ⟨rfl, rfl⟩
theorem octnil_text (n : Nat) (hn : n < 1000) (w : World) : Calls Try.prog 31 #[.pointer none, .int .i64 n] w fun x w' => x = .returned (.string ByteArray.empty) ∧ w = w' := by
  have hc := wrap_u64_of n (by unfold U64; omega)
  have hc2 : ¬ (n : Int) < 0 := by omega
  go_enter Try.func31, Try.ntmps31
  go_wp2_with (first
    | (go_at_call 33; refine (octnil_four _).mono ?_; rintro x w1 ⟨rfl, rfl⟩)
    | (go_at_call 37; refine (octnil_take _ _).mono ?_; rintro x w1 ⟨rfl, rfl⟩))
  go_ret
  exact ⟨rfl, rfl⟩
theorem octnil_err (w : World) : Calls Try.prog 39 #[.pointer none] w fun x w' => x = .returned (.int .i64 1) ∧ w = w' := by
  go_enter Try.func39, Try.ntmps39
  go_wp2
  go_ret
  exact ⟨rfl, rfl⟩
theorem octnil_left (w : World) : Calls Try.prog 38 #[.pointer none] w fun x w' => x = .returned (.int .i64 0) ∧ w = w' := by
  go_enter Try.func38, Try.ntmps38
  go_wp2
  go_ret
  exact ⟨rfl, rfl⟩
theorem octnil_end (w : World) : Calls Try.prog 35 #[.pointer none] w fun x w' => x = .returned (.int .i64 1) ∧ w = w' := by
  go_enter Try.func35, Try.ntmps35
  go_wp2_with (go_at_call 39; refine (octnil_err _).mono ?_; rintro x w1 ⟨rfl, rfl⟩)
  go_ret
  exact ⟨rfl, rfl⟩
theorem octnil_fail (e : Int) (w : World) : Calls Try.prog 36 #[.pointer none, .int .i64 e] w fun x w' => x = .returned (.tuple #[]) ∧ w = w' := by
  go_enter Try.func36, Try.ntmps36
  go_wp2
  go_end0
  exact ⟨rfl, rfl⟩
theorem walk_OctetNil (w : World) :
    Calls Try.prog 9 #[] w fun e w' => e = .returned (.bool true) ∧ Gr w w' := by
  have he : ByteArray.empty.toList = [] := by rw [ByteArray.toList_eq]; rfl
  go_enter Try.func9, Try.ntmps9
  go_wp2_with (first
    | (go_at_call 21; refine (law03_awake _).mono ?_; rintro e w1 ⟨rfl, hb1⟩)
    | (go_at_call 36; refine (octnil_fail _ _).mono ?_; rintro x w2 ⟨rfl, rfl⟩)
    | (go_at_call 30; refine (octnil_one _).mono ?_; rintro x w3 ⟨rfl, rfl⟩)
    | (go_at_call 34; refine (octnil_eight _).mono ?_; rintro x w4 ⟨rfl, rfl⟩)
    | (go_at_call 31; refine (octnil_text 9 (by omega) _).mono ?_; rintro x w5 ⟨rfl, rfl⟩)
    | (go_at_call 37; refine (octnil_take _ _).mono ?_; rintro x w6 ⟨rfl, rfl⟩)
    | (go_at_call 38; refine (octnil_left _).mono ?_; rintro x w7 ⟨rfl, rfl⟩)
    | (go_at_call 39; refine (octnil_err _).mono ?_; rintro x w8 ⟨rfl, rfl⟩)
    | (go_at_call 35; refine (octnil_end _).mono ?_; rintro x w9 ⟨rfl, rfl⟩))
  go_ret
  exact ⟨rfl, hb1⟩
end Go.Proofs.Ytlkkgnidcgochaa
