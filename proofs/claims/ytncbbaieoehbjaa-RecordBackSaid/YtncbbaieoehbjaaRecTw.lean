/- Layer 19: numbers of two bytes: the codec, its bytes, what bytes are. -/
import Derived.Test.YtncbbaieoehbjaaOctWr
import Derived.Test.YtncbbaieoehbjaaOctText
import Derived.Test.YtncbbaieoehbjaaRecBase
import Derived.Laws.EntriesVeiled
import Derived.Deep.RegionHeld3
namespace Go.Proofs.Ytncbbaieoehbjaa
open Go.RowKit
set_option linter.unusedVariables false
set_option linter.unusedSimpArgs false
set_option maxRecDepth 100000
set_option maxHeartbeats 2000000
def twF (w : World) (v : Value) : Prop := ∃ b1 b2 : Nat, v = .agg #[.func (.func 73) #[] #[.pointer (some ⟨b1, 0, none⟩)], .func (.func 75) #[] #[.pointer (some ⟨b2, 0, none⟩)]] ∧ w.cell? ⟨b1, 0, none⟩ = some (.func (.func 22) #[] #[]) ∧ w.cell? ⟨b2, 0, none⟩ = some (.func (.func 23) #[] #[])
theorem twF.gr {w w' : World} {v : Value} (h : twF w v) (hg : Gr w w') : twF w' v := by
  obtain ⟨b1, b2, rfl, h0, h1⟩ := h
  exact ⟨b1, b2, rfl, hg.cells h0, hg.cells h1⟩
theorem tw_vput (n : Nat) (hn : n < 65536) (p : Nat) (w : World) (hp : w.cell? ⟨p, 0, none⟩ = some (.func (.func 22) #[] #[])) :
    Calls Try.prog 73 #[.int .u16 (n : Nat), .pointer (some ⟨p, 0, none⟩)] w fun r w' => r = .returned (.string (B (Oct.be 1 1) ++ B (Oct.be n 2))) ∧ Gr w w' := by
  have z0 := B_be_size 1 1
  have z1 := B_be_size n 2
  have c1 := fun w1 => Lib.hid (oct_one 1 (by omega) w1)
  have c2 := fun w1 => Lib.hid (oct_two n hn w1)
  generalize B (Oct.be 1 1) = g1 at *
  generalize B (Oct.be n 2) = g2 at *
  have y1 : ¬ (9223372036854775807 < g1.size + g2.size) := by omega
  rw [z0, z1] at y1
  go_enter Try.func73, Try.ntmps73
  go_wp2
  go_region_held3 (fun w' => w'.cell? ⟨p, 0, none⟩ = some (.func (.func 22) #[] #[])) (first | exact hp | exact HQ.out | assumption)
    (first
      | (go_at_call 74; refine (c1 _).out.mono ?_; rintro r v1 ⟨rfl, hg⟩; have HV1 : Hid (Gr w v1) := (Gr.refl w).drew.trans hg; have HQ := Lib.hid (HV1.out.cells hp); clear hg)
      | (go_at_call 22; refine (c2 _).out.mono ?_; rintro r v2 ⟨rfl, hg⟩; have HV2 : Hid (Gr w v2) := HV1.out.trans hg; have HQ := Lib.hid (HV2.out.cells hp); clear hg))
  go_wp2
  go_ret
  exact ⟨rfl, HV2.out⟩
theorem tw_ver (w : World) :
    Calls Try.prog 21 #[.func (.func 22) #[] #[], .func (.func 23) #[] #[]] w fun r w' => ∃ v, r = .returned v ∧ twF w' v ∧ Gr w w' := by
  have HA := Lib.hid (heap_alloc3 w (.cells #[.func (.func 22) #[] #[]] 52) (.cells #[.func (.func 23) #[] #[]] 53) (.cells #[.func (.func 73) #[] #[.pointer (some ⟨w.heap.size, 0, none⟩)], .func (.func 75) #[] #[.pointer (some ⟨w.heap.size + 1, 0, none⟩)]] 55))
  have HG : Hid (Gr w (((w.alloc (.cells #[.func (.func 22) #[] #[]] 52)).alloc (.cells #[.func (.func 23) #[] #[]] 53)).alloc (.cells #[.func (.func 73) #[] #[.pointer (some ⟨w.heap.size, 0, none⟩)], .func (.func 75) #[] #[.pointer (some ⟨w.heap.size + 1, 0, none⟩)]] 55))) := (((Gr.refl w).alloc _).alloc _).alloc _
  go_enter Try.func21, Try.ntmps21
  go_wp2
  refine bodyPost_ret (results_cell_row rfl _ _ (w.heap.size + 2) _ #[.func (.func 73) #[] #[.pointer (some ⟨w.heap.size, 0, none⟩)], .func (.func 75) #[] #[.pointer (some ⟨w.heap.size + 1, 0, none⟩)]] (0, 0) (.struct _) rfl HA.out.2.2 Try.underlying55 rfl (by kernel_rfl)) rfl ⟨_, rfl, ⟨w.heap.size, w.heap.size + 1, rfl, ?_, ?_⟩, HG.out⟩
  · rw [cell_of_row _ _ 0 _ _ _ HA.out.1]; rfl
  · rw [cell_of_row _ _ 0 _ _ _ HA.out.2.1]; rfl
theorem tw_eq1 (b : Nat) (w : World) : (binOp .eql 52 (.func (.func 73) #[] #[.pointer (some ⟨b, 0, none⟩)]) .nilFunc).run Try.prog w = .ok (.bool false) w := by kernel_rfl
theorem tw_eq2 (b : Nat) (w : World) : (binOp .eql 53 (.func (.func 75) #[] #[.pointer (some ⟨b, 0, none⟩)]) .nilFunc).run Try.prog w = .ok (.bool false) w := by kernel_rfl
theorem tw_bytes (n : Nat) (hn : n < 65536) (v : Value) (w : World) (hv : twF w v) :
    Calls Try.prog 25 #[v, .int .u16 (n : Nat)] w fun r w' => r = .returned (.string (B (Oct.be 1 1) ++ B (Oct.be n 2))) ∧ Gr w w' := by
  obtain ⟨b1, b2, rfl, hb1, hb2⟩ := hv
  have hn1 := tw_eq1
  have HP := Lib.hid hb1
  clear hb1 hb2
  have HG : Hid (Gr w (w.alloc (.cells #[.func (.func 73) #[] #[.pointer (some ⟨b1, 0, none⟩)], .func (.func 75) #[] #[.pointer (some ⟨b2, 0, none⟩)]] 55))) := (Gr.refl w).alloc _
  have c1 := Lib.hid (tw_vput n hn b1 _ (HG.out.cells HP.out))
  generalize B (Oct.be 1 1) ++ B (Oct.be n 2) = q at *
  go_enter Try.func25, Try.ntmps25
  go_wp2_with (go_at_call 73; refine c1.out.mono ?_; rintro r v1 ⟨rfl, hg⟩)
  go_ret
  exact ⟨rfl, HG.out.trans hg⟩
end Go.Proofs.Ytncbbaieoehbjaa
