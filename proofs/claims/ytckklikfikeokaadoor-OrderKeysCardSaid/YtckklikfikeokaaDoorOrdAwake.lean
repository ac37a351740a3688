/- Layer 4: the chapter's example. -/
import Derived.Test.YtckklikfikeokaaDoorOrdW1
namespace Go.Proofs.YtckklikfikeokaaDoor
open Go.RowKit
set_option linter.unusedVariables false
set_option linter.unusedSimpArgs false
set_option maxRecDepth 100000
set_option maxHeartbeats 1000000
theorem cf_nil (A : Option Addr) (cap : Nat) (n : Nat) (hn : 0 < n) (hn2 : n ≤ 1000000) (f : Value) (w : World) :
    Calls Tryd.prog 37 #[.slice none 0 0, .slice A n cap, f] w fun r w' => r = .returned (.int .i64 (-1)) ∧ Gr w w' := by
  have hn3 : (0 : Int) < (n : Int) := by omega
  go_enter Tryd.func37, Tryd.ntmps37
  go_wp2
  go_loopw [13] (fun i wr => i = .int .i64 0 ∧ Hid (Gr w wr)) (fun i _ => 0)
  case atStart => exact ⟨rfl, Gr.refl _⟩
  case round =>
    obtain ⟨rfl, HR⟩ := hrel
    go_wp2
    go_ret
    exact ⟨rfl, HR.out⟩
theorem less_nil (A : Option Addr) (cap : Nat) (n : Nat) (hn : 0 < n) (hn2 : n ≤ 1000000) (w : World) :
    Calls Tryd.prog 19 #[.slice none 0 0, .slice A n cap] w fun r w' => r = .returned (.bool true) ∧ Gr w w' := by
  have c := fun f w1 => Lib.hid (cf_nil A cap n hn hn2 f w1)
  go_enter Tryd.func19, Tryd.ntmps19
  go_wp2_with (go_at_call 37; refine (c _ _).out.mono ?_; rintro r v1 ⟨rfl, hg⟩)
  go_ret
  exact ⟨rfl, hg⟩
theorem law04_awake (w : World) : Calls Tryd.prog 14 #[] w fun r w' => r = .returned (.bool true) ∧ Gr w w' := by
  have cN := fun w1 => Lib.hid (or_num 1 (by unfold U64; omega) w1)
  have cL := fun A w1 => Lib.hid (less_nil A 1 1 (by omega) (by omega) w1)
  have cK := fun A w1 h1 => Lib.hid (or_key A 1 [(false, 1, .empty)] (by simp) (by decide) (fun p hp => by simp only [List.mem_singleton] at hp; subst hp; decide) w1 h1 (fun p hp W _ => by simp only [List.mem_singleton] at hp; subst hp; exact pa_num 1 (by unfold U64; omega) _ W))
  have hk : keyAns [((false, 1, ByteArray.empty) : Pa)] = (⟨#[1, 0, 0, 0, 0, 0, 0, 0, 1]⟩, 0) := by
    unfold keyAns
    rw [if_neg (by decide)]
    decide
  rw [hk] at cK
  clear hk
  have e1 : ((1 : Nat) : Int) = 1 := rfl
  simp only [e1, List.length_singleton] at cN cL cK
  have HSL : Hid (∀ (w2 : World) (g : Nat), w2.heap[g]? = some (.cells #[.bool false, .int .u64 1, .string .empty] 30 (0, 0)) → SliceAt w2 (some ⟨g, 0, none⟩) 3 paCell [((false, 1, ByteArray.empty) : Pa)]) := by
    intro w2 g hg
    refine .inr ⟨g, 0, rfl, ?_⟩
    intro i x hx j u hu
    match i, hx with
    | 0, hx =>
      cases hx
      match j, hu with
      | 0, hu => cases hu; rw [cell_of_row _ _ _ _ _ _ hg]; rfl
      | 1, hu => cases hu; rw [cell_of_row _ _ _ _ _ _ hg]; rfl
      | 2, hu => cases hu; rw [cell_of_row _ _ _ _ _ _ hg]; rfl
  go_enter Tryd.func14, Tryd.ntmps14
  go_wp2_with (first
    | (go_at_call 32; refine (cN _).out.mono ?_; clear cN; rintro r v1 ⟨rfl, hg⟩; have HG1 := Lib.hid hg; clear hg)
    | (go_at_call 17; refine (cK _ _ (HSL.out _ _ (heap_alloc_last v1 _))).out.mono ?_; clear cK; rintro r v2 ⟨rfl, hg⟩; have HG2 := Lib.hid ((HG1.out.alloc _).trans hg); clear hg)
    | (go_at_call 19; refine (cL _ _).out.mono ?_; clear cL; rintro r v3 ⟨rfl, hg⟩; have HG3 := Lib.hid ((HG2.out.alloc _).trans hg); clear hg))
  go_ret
  exact ⟨rfl, HG3.out⟩
end Go.Proofs.YtckklikfikeokaaDoor
