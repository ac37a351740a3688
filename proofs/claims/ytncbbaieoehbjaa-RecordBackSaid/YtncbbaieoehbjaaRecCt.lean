/- Layer 19: counters: the codec, its bytes, what bytes are. -/
import Derived.Test.YtncbbaieoehbjaaOctWr
import Derived.Test.YtncbbaieoehbjaaOctText
import Derived.Test.YtncbbaieoehbjaaRecBase
import Derived.Laws.EntriesVeiled
import Derived.Deep.RegionHeld3
namespace Go.Proofs.Ytncbbaieoehbjaa
open Go.RowKit
set_option linter.unusedVariables false
set_option linter.unusedSimpArgs false
set_option maxRecDepth 100000
set_option maxHeartbeats 2000000
def ctF (w : World) (v : Value) : Prop := ∃ b1 b2 : Nat, v = .agg #[.func (.func 116) #[] #[.pointer (some ⟨b1, 0, none⟩)], .func (.func 117) #[] #[.pointer (some ⟨b2, 0, none⟩)]] ∧ w.cell? ⟨b1, 0, none⟩ = some (.func (.func 60) #[] #[]) ∧ w.cell? ⟨b2, 0, none⟩ = some (.func (.func 64) #[] #[])
theorem ctF.gr {w w' : World} {v : Value} (h : ctF w v) (hg : Gr w w') : ctF w' v := by
  obtain ⟨b1, b2, rfl, h0, h1⟩ := h
  exact ⟨b1, b2, rfl, hg.cells h0, hg.cells h1⟩
theorem ct_vput (n : Nat) (hn : U64 n) (p : Nat) (w : World) (hp : w.cell? ⟨p, 0, none⟩ = some (.func (.func 60) #[] #[])) :
    Calls Try.prog 116 #[.int .u64 (n : Nat), .pointer (some ⟨p, 0, none⟩)] w fun r w' => r = .returned (.string (B (Oct.be 1 1) ++ B (Oct.be n 8))) ∧ Gr w w' := by
  have z0 := B_be_size 1 1
  have z1 := B_be_size n 8
  have c1 := fun w1 => Lib.hid (oct_one 1 (by omega) w1)
  have c2 := fun w1 => Lib.hid (oct_eight n hn w1)
  generalize B (Oct.be 1 1) = g1 at *
  generalize B (Oct.be n 8) = g2 at *
  have y1 : ¬ (9223372036854775807 < g1.size + g2.size) := by omega
  rw [z0, z1] at y1
  go_enter Try.func116, Try.ntmps116
  go_wp2
  go_region_held3 (fun w' => w'.cell? ⟨p, 0, none⟩ = some (.func (.func 60) #[] #[])) (first | exact hp | exact HQ.out | assumption)
    (first
      | (go_at_call 74; refine (c1 _).out.mono ?_; rintro r v1 ⟨rfl, hg⟩; have HV1 : Hid (Gr w v1) := (Gr.refl w).drew.trans hg; have HQ := Lib.hid (HV1.out.cells hp); clear hg)
      | (go_at_call 60; refine (c2 _).out.mono ?_; rintro r v2 ⟨rfl, hg⟩; have HV2 : Hid (Gr w v2) := HV1.out.trans hg; have HQ := Lib.hid (HV2.out.cells hp); clear hg))
  go_wp2
  go_ret
  exact ⟨rfl, HV2.out⟩
theorem ct_ver (w : World) :
    Calls Try.prog 70 #[.func (.func 60) #[] #[], .func (.func 64) #[] #[]] w fun r w' => ∃ v, r = .returned v ∧ ctF w' v ∧ Gr w w' := by
  have HA := Lib.hid (heap_alloc3 w (.cells #[.func (.func 60) #[] #[]] 39) (.cells #[.func (.func 64) #[] #[]] 40) (.cells #[.func (.func 116) #[] #[.pointer (some ⟨w.heap.size, 0, none⟩)], .func (.func 117) #[] #[.pointer (some ⟨w.heap.size + 1, 0, none⟩)]] 42))
  have HG : Hid (Gr w (((w.alloc (.cells #[.func (.func 60) #[] #[]] 39)).alloc (.cells #[.func (.func 64) #[] #[]] 40)).alloc (.cells #[.func (.func 116) #[] #[.pointer (some ⟨w.heap.size, 0, none⟩)], .func (.func 117) #[] #[.pointer (some ⟨w.heap.size + 1, 0, none⟩)]] 42))) := (((Gr.refl w).alloc _).alloc _).alloc _
  go_enter Try.func70, Try.ntmps70
  go_wp2
  refine bodyPost_ret (results_cell_row rfl _ _ (w.heap.size + 2) _ #[.func (.func 116) #[] #[.pointer (some ⟨w.heap.size, 0, none⟩)], .func (.func 117) #[] #[.pointer (some ⟨w.heap.size + 1, 0, none⟩)]] (0, 0) (.struct _) rfl HA.out.2.2 Try.underlying42 rfl (by kernel_rfl)) rfl ⟨_, rfl, ⟨w.heap.size, w.heap.size + 1, rfl, ?_, ?_⟩, HG.out⟩
  · rw [cell_of_row _ _ 0 _ _ _ HA.out.1]; rfl
  · rw [cell_of_row _ _ 0 _ _ _ HA.out.2.1]; rfl
theorem ct_mk (w : World) : Calls Try.prog 16 #[] w fun r w' => ∃ v, r = .returned v ∧ ctF w' v ∧ Gr w w' := by
  have HV := fun w1 => Lib.hid (ct_ver w1)
  have HN := Lib.hid (heap_alloc_last w (.cells #[.nilFunc, .nilFunc] 42))
  have HG0 : Hid (Gr w (w.alloc (.cells #[.nilFunc, .nilFunc] 42))) := (Gr.refl w).alloc _
  have HZ : Hid ((w.alloc (.cells #[.nilFunc, .nilFunc] 42)).heap.size = w.heap.size + 1) := alloc_size _ _
  go_enter Try.func16, Try.ntmps16
  go_wp2_with (go_at_call 70; refine (HV _).out.mono ?_; rintro r v1 ⟨_, rfl, ⟨b1, b2, rfl, hb1, hb2⟩, hg⟩; have HR : Hid (v1.heap[w.heap.size]? = some (.cells #[.nilFunc, .nilFunc] 42 (0, 0))) := (hg.block (by rw [HZ.out]; omega)).trans HN.out; have HK2 := Lib.hid (And.intro hg (And.intro hb1 hb2)); clear hb1 hb2 hg; obtain ⟨d0, d1, d2, d3⟩ := At2.of_row HR.out)
  have HNE : ∀ (p : Nat) (f : Fn) (c : Array Value) , v1.cell? ⟨p, 0, none⟩ = some (.func f #[] c) → p ≠ w.heap.size := fun p f c h he => by subst he; rw [d0] at h; cases h
  refine bodyPost_ret (results_cell_row rfl _ _ (w.heap.size) _ #[.func (.func 116) #[] #[.pointer (some ⟨b1, 0, none⟩)], .func (.func 117) #[] #[.pointer (some ⟨b2, 0, none⟩)]] (0, 0) (.struct _) rfl (heap_setCell_same _ _ 1 _ _ _ (heap_setCell_same _ _ 0 _ _ _ HR.out)) Try.underlying42 rfl (by kernel_rfl)) rfl ⟨_, rfl, ⟨b1, b2, rfl, ?_, ?_⟩, ?_⟩
  · exact cell_setCell_ne (cell_setCell_ne HK2.out.2.1 (HNE _ _ _ HK2.out.2.1)) (HNE _ _ _ HK2.out.2.1)
  · exact cell_setCell_ne (cell_setCell_ne HK2.out.2.2 (HNE _ _ _ HK2.out.2.2)) (HNE _ _ _ HK2.out.2.2)
  · exact ((HG0.out.trans HK2.out.1).setCell (Nat.le_refl _) _).setCell (Nat.le_refl _) _
theorem ct_eq1 (b : Nat) (w : World) : (binOp .eql 39 (.func (.func 116) #[] #[.pointer (some ⟨b, 0, none⟩)]) .nilFunc).run Try.prog w = .ok (.bool false) w := by kernel_rfl
theorem ct_eq2 (b : Nat) (w : World) : (binOp .eql 40 (.func (.func 117) #[] #[.pointer (some ⟨b, 0, none⟩)]) .nilFunc).run Try.prog w = .ok (.bool false) w := by kernel_rfl
theorem ct_bytes (n : Nat) (hn : U64 n) (v : Value) (w : World) (hv : ctF w v) :
    Calls Try.prog 17 #[v, .int .u64 (n : Nat)] w fun r w' => r = .returned (.string (B (Oct.be 1 1) ++ B (Oct.be n 8))) ∧ Gr w w' := by
  obtain ⟨b1, b2, rfl, hb1, hb2⟩ := hv
  have hn1 := ct_eq1
  have HP := Lib.hid hb1
  clear hb1 hb2
  have HG : Hid (Gr w (w.alloc (.cells #[.func (.func 116) #[] #[.pointer (some ⟨b1, 0, none⟩)], .func (.func 117) #[] #[.pointer (some ⟨b2, 0, none⟩)]] 42))) := (Gr.refl w).alloc _
  have c1 := Lib.hid (ct_vput n hn b1 _ (HG.out.cells HP.out))
  generalize B (Oct.be 1 1) ++ B (Oct.be n 8) = q at *
  go_enter Try.func17, Try.ntmps17
  go_wp2_with (go_at_call 116; refine c1.out.mono ?_; rintro r v1 ⟨rfl, hg⟩)
  go_ret
  exact ⟨rfl, HG.out.trans hg⟩
end Go.Proofs.Ytncbbaieoehbjaa
