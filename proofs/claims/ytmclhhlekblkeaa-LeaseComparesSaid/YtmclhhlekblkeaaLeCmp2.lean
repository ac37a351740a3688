/- Layer 23: lease.Compare. -/
import Derived.Test.YtmclhhlekblkeaaLeCmp
namespace Go.Proofs.Ytmclhhlekblkeaa
open Go.RowKit Go.Shelf
set_option linter.unusedVariables false
set_option linter.unusedSimpArgs false
set_option maxRecDepth 100000
set_option maxHeartbeats 2000000
/-- what Compare answers -/
noncomputable def kyCmp (a b : Ky) : Int := if sgn (Op.bytesLess a.1.toList b.1.toList) (Op.bytesLess b.1.toList a.1.toList) = 0 then sgn (decide (a.2 < b.2)) (decide (b.2 < a.2)) else sgn (Op.bytesLess a.1.toList b.1.toList) (Op.bytesLess b.1.toList a.1.toList)
theorem le_compare (a0 b0 : ByteArray) (a1 b1 : Nat) (w : World) : Calls Try.prog 8 #[.agg #[.string a0, .int .u64 (a1 : Nat)], .agg #[.string b0, .int .u64 (b1 : Nat)]] w fun r w' => r = .returned (.int .i64 (kyCmp (a0, a1) (b0, b1))) ∧ Gr w w' := by
  have R0 := rowA (heap_alloc_last w (.cells #[.string a0, .int .u64 (a1 : Nat)] 24)) (.cells #[.string b0, .int .u64 (b1 : Nat)] 24)
  have R1 := heap_alloc_last (w.alloc (.cells #[.string a0, .int .u64 (a1 : Nat)] 24)) (.cells #[.string b0, .int .u64 (b1 : Nat)] 24)
  rw [alloc_size] at R1
  have HG : Hid (Gr w ((w.alloc (.cells #[.string a0, .int .u64 (a1 : Nat)] 24)).alloc (.cells #[.string b0, .int .u64 (b1 : Nat)] 24))) := ((Gr.refl w).alloc _).alloc _
  obtain ⟨res, hres⟩ : ∃ res, res = kyCmp (a0, a1) (b0, b1) := ⟨_, rfl⟩
  rw [← hres]
  unfold kyCmp at hres
  simp only at hres
  have cS := fun w1 => Lib.hid (cmp_str a0 b0 w1)
  have cU := fun w1 => Lib.hid (cmp_u64 a1 b1 w1)
  generalize sgn (Op.bytesLess a0.toList b0.toList) (Op.bytesLess b0.toList a0.toList) = x at *
  generalize sgn (decide (a1 < b1)) (decide (b1 < a1)) = y at *
  have cO := fun b w1 h => Lib.hid (cmp_or2 b x y w1 h)
  simp only [← hres] at cO
  clear hres
  go_enter Try.func8, Try.ntmps8
  go_wp2
  generalize (w.alloc (.cells #[.string a0, .int .u64 (a1 : Nat)] 24)).alloc (.cells #[.string b0, .int .u64 (b1 : Nat)] 24) = W at *
  have c0 := le_cell R0 0 _ rfl
  have c1 := le_cell R0 1 _ rfl
  have d0 := le_cell R1 0 _ rfl
  have d1 := le_cell R1 1 _ rfl
  clear R0 R1
  go_region_law (first
    | (go_simp; go_at_call 31; refine (cS _).out.mono ?_; rintro r v ⟨rfl, rfl⟩)
    | (go_simp; go_at_call 32; refine (cU _).out.mono ?_; rintro r v ⟨rfl, rfl⟩)
    | (go_simp; go_at_call 30; refine (cO W.heap.size _ (by first | exact heap_alloc_last W _ | exact heap_alloc_last W.drew _)).out.mono ?_; rintro r v ⟨rfl, rfl⟩))
  all_goals go_wp2
  all_goals go_ret
  all_goals exact ⟨rfl, by first | exact (HG.out.alloc _).drew | exact HG.out.drew.alloc _⟩
end Go.Proofs.Ytmclhhlekblkeaa
