/- strings.Builder with its frame: told. -/
import Derived.Test.YtmpmfgkabjedpaaBd2
import Derived.Lib.UnsafeStr
import Derived.Shelf.RegionOpenPlain
namespace Go.Proofs.Ytmpmfgkabjedpaa
open Go.RowKit
set_option linter.unusedVariables false
set_option linter.unusedSimpArgs false
set_option maxRecDepth 100000
set_option maxHeartbeats 2000000
theorem kp_freeze (b g : Nat) (w : World) (n : Nat) : Kp b (some g) w (w.freeze ⟨g, 0, none⟩ n) := by
  unfold World.freeze
  split
  · exact ⟨rfl, rfl, rfl, Nat.le_refl _, fun _ _ _ _ => rfl⟩
  · refine ⟨rfl, rfl, rfl, by simp, fun k hk _ hG => ?_⟩
    simp only [Array.getElem?_modify]
    rw [if_neg (fun e => hG (by rw [← e]))]
theorem kp_drew {b : Nat} {G : Option Nat} {w w' : World} (h : Kp b G w.drew w') : Kp b G w w' := ⟨h.os, h.tape, h.output, h.size, h.block⟩
theorem bd_str (b : Nat) (G : Option Nat) (l : List UInt8) (w : World) (h : Bd w b G l) (hlen : l.length ≤ 140737488355328) :
    Calls Try.prog 91 #[.pointer (some ⟨b, 0, none⟩)] w fun e w' => e = .returned (.string ⟨l.toArray⟩) ∧ Kp b G w w' := by
  obtain ⟨p, v, hp, hrow, hown, hne, rfl, hnil⟩ := h
  by_cases h0 : l = []
  · obtain rfl := hnil h0
    subst h0
    have hSD : (Builtin.unsafeSliceData_ #[133] 160 #[.slice none 0 0]).run Try.prog w.drew = .ok (.pointer none) w.drew := rfl
    have hUS : (Builtin.unsafeString_ #[160, 3] 9 #[.pointer none, .int .i64 0]).run Try.prog w.drew = .ok (.string .empty) w.drew := Lib.run_unsafeString_none w.drew _ _ _ _
    have c1 : w.drew.cell? ⟨b, 1, none⟩ = some (.slice none 0 0) := by
      have : w.drew.heap[b]? = some (.cells #[p, .slice none 0 0] 135 (0, 0)) := hrow
      rw [Lib.cell_of_heap this]; rfl
    clear hp hown hne hnil hrow
    have mixed : Try.prog.follows .mixedOrders = true := by kernel_rfl
    go_enter Try.func91, Try.ntmps91
    go_wp2
    go_region_o
    all_goals (go_wp2; go_ret; exact ⟨rfl, ⟨rfl, rfl, rfl, Nat.le_refl _, fun _ _ _ _ => rfl⟩⟩)
  · have hl0 : l.length ≠ 0 := by simpa using h0
    obtain ⟨g, cap, cur, rfl, hbg, hg, hnc, hcm, hcs, htake⟩ : ∃ g cap cur, v = .slice (some ⟨g, 0, none⟩) l.length cap ∧ b ≤ g ∧ w.heap[g]? = some (.cells cur 5 (0, 0)) ∧ l.length ≤ cap ∧ cap ≤ maxLen ∧ cur.size = cap * 1 ∧ cur.toList.take (l.length * 1) = Lib.byteCells l := by
      rcases hown.2 with ⟨_, hz⟩ | ⟨g, cap, cur, hv, r⟩
      · exact absurd hz hl0
      · exact ⟨g, cap, cur, hv, r⟩
    have c1 : w.drew.cell? ⟨b, 1, none⟩ = some (.slice (some ⟨g, 0, none⟩) l.length cap) := by
      have : w.drew.heap[b]? = some (.cells #[p, .slice (some ⟨g, 0, none⟩) l.length cap] 135 (0, 0)) := hrow
      rw [Lib.cell_of_heap this]; rfl
    have hSD : (Builtin.unsafeSliceData_ #[133] 160 #[.slice (some ⟨g, 0, none⟩) l.length cap]).run Try.prog w.drew = .ok (.pointer (some ⟨g, 0, none⟩)) w.drew :=
      Lib.run_unsafeSliceData_row _ _ _ _ _ _ (by omega)
    have hUS : (Builtin.unsafeString_ #[160, 3] 9 #[.pointer (some ⟨g, 0, none⟩), .int .i64 l.length]).run Try.prog w.drew = .ok (.string ⟨l.toArray⟩) (w.drew.freeze ⟨g, 0, none⟩ l.length) := by
      refine Lib.run_unsafeString_row w.drew _ _ _ 5 Try.underlying160 (by kernel_rfl) g cur.size (by have hg' : w.drew.heap[g]? = some (.cells cur 5 (0, 0)) := hg; simp [World.shape?, hg']) l h0 (by omega) (by omega) ?_
      intro j x hx
      exact hown.cells (g := g) rfl j (.int .u8 x.toNat) (by simp [Lib.byteCells, hx])
    clear hp hown hne hnil hrow htake
    have mixed : Try.prog.follows .mixedOrders = true := by kernel_rfl
    go_enter Try.func91, Try.ntmps91
    go_wp2
    go_region_o
    all_goals (go_wp2; go_ret; exact ⟨rfl, kp_drew (kp_freeze b g w.drew _)⟩)
end Go.Proofs.Ytmpmfgkabjedpaa
