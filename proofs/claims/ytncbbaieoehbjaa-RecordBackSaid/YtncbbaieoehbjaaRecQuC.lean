/- Layer 19: Queues: the codec, and one as its bytes (printed by recgen.py). -/
import Derived.Test.YtncbbaieoehbjaaRecQuA
import Derived.Test.YtncbbaieoehbjaaRecBase
namespace Go.Proofs.Ytncbbaieoehbjaa
open Go.RowKit
set_option linter.unusedVariables false
set_option linter.unusedSimpArgs false
set_option maxRecDepth 100000
set_option maxHeartbeats 2000000
def quF (w : World) (v : Value) (nm : ByteArray) : Prop := ∃ b1 b2 p0 : Nat, v = .agg #[.func (.func 111) #[] #[.pointer (some ⟨b1, 0, none⟩)], .func (.func 112) #[] #[.pointer (some ⟨b2, 0, none⟩)]] ∧ w.cell? ⟨b1, 0, none⟩ = some (.func (.func 58) #[] #[]) ∧ w.cell? ⟨b2, 0, none⟩ = some (.func (.func 62) #[] #[.pointer (some ⟨p0, 0, none⟩)]) ∧ w.cell? ⟨p0, 0, none⟩ = some (.string nm)
theorem quF.gr {w w' : World} {v : Value} {nm : ByteArray} (h : quF w v nm) (hg : Gr w w') : quF w' v nm := by
  obtain ⟨b1, b2, p0, rfl, h0, h1, h2⟩ := h
  exact ⟨b1, b2, p0, rfl, hg.cells h0, hg.cells h1, hg.cells h2⟩
theorem qu_ver (p0 : Nat) (w : World) :
    Calls Try.prog 57 #[.func (.func 58) #[] #[], .func (.func 62) #[] #[.pointer (some ⟨p0, 0, none⟩)]] w fun r w' => ∃ b1 b2 : Nat, r = .returned (.agg #[.func (.func 111) #[] #[.pointer (some ⟨b1, 0, none⟩)], .func (.func 112) #[] #[.pointer (some ⟨b2, 0, none⟩)]]) ∧ w'.cell? ⟨b1, 0, none⟩ = some (.func (.func 58) #[] #[]) ∧ w'.cell? ⟨b2, 0, none⟩ = some (.func (.func 62) #[] #[.pointer (some ⟨p0, 0, none⟩)]) ∧ Gr w w' := by
  have HA := Lib.hid (heap_alloc3 w (.cells #[.func (.func 58) #[] #[]] 29) (.cells #[.func (.func 62) #[] #[.pointer (some ⟨p0, 0, none⟩)]] 30) (.cells #[.func (.func 111) #[] #[.pointer (some ⟨w.heap.size, 0, none⟩)], .func (.func 112) #[] #[.pointer (some ⟨w.heap.size + 1, 0, none⟩)]] 32))
  have HG : Hid (Gr w (((w.alloc (.cells #[.func (.func 58) #[] #[]] 29)).alloc (.cells #[.func (.func 62) #[] #[.pointer (some ⟨p0, 0, none⟩)]] 30)).alloc (.cells #[.func (.func 111) #[] #[.pointer (some ⟨w.heap.size, 0, none⟩)], .func (.func 112) #[] #[.pointer (some ⟨w.heap.size + 1, 0, none⟩)]] 32))) := (((Gr.refl w).alloc _).alloc _).alloc _
  go_enter Try.func57, Try.ntmps57
  go_wp2
  refine bodyPost_ret (results_cell_row rfl _ _ (w.heap.size + 2) _ #[.func (.func 111) #[] #[.pointer (some ⟨w.heap.size, 0, none⟩)], .func (.func 112) #[] #[.pointer (some ⟨w.heap.size + 1, 0, none⟩)]] (0, 0) (.struct _) rfl HA.out.2.2 Try.underlying32 rfl (by kernel_rfl)) rfl ⟨w.heap.size, w.heap.size + 1, rfl, ?_, ?_, HG.out⟩
  · rw [cell_of_row _ _ 0 _ _ _ HA.out.1]; rfl
  · rw [cell_of_row _ _ 0 _ _ _ HA.out.2.1]; rfl
theorem qu_mk (nm : ByteArray) (w : World) :
    Calls Try.prog 10 #[.string nm] w fun r w' => ∃ v, r = .returned v ∧ quF w' v nm ∧ Gr w w' := by
  have HG0 : Hid (Gr w ((w.alloc (.cells #[.string nm] 9)).alloc (.cells #[.nilFunc, .nilFunc] 32))) := by unfold Hid; exact ((Gr.refl w).alloc _).alloc _
  have HN := Lib.hid (heap_alloc_last (w.alloc (.cells #[.string nm] 9)) (.cells #[.nilFunc, .nilFunc] 32))
  have k0 : ((w.alloc (.cells #[.string nm] 9)).alloc (.cells #[.nilFunc, .nilFunc] 32)).cell? ⟨w.heap.size, 0, none⟩ = some (.string nm) := by
    have h := heap_alloc_last w (.cells #[.string nm] 9)
    have hc : (w.alloc (.cells #[.string nm] 9)).cell? ⟨w.heap.size, 0, none⟩ = some (.string nm) := by rw [cell_of_row _ _ 0 _ _ _ h]; rfl
    have hgr : Gr (w.alloc (.cells #[.string nm] 9)) ((w.alloc (.cells #[.string nm] 9)).alloc (.cells #[.nilFunc, .nilFunc] 32)) := ((Gr.refl (w.alloc (.cells #[.string nm] 9))).alloc _)
    have := hgr.cells hc
    simpa only [alloc_size, Nat.add_assoc] using this
  have HZ : Hid ((w.alloc (.cells #[.string nm] 9)).heap.size = w.heap.size + 1) := by unfold Hid; simp only [alloc_size]
  rw [HZ.out] at HN
  have hK : Hid (((w.alloc (.cells #[.string nm] 9)).alloc (.cells #[.nilFunc, .nilFunc] 32)).cell? ⟨w.heap.size, 0, none⟩ = some (.string nm)) := k0
  clear k0
  have HV := fun w1 => Lib.hid (qu_ver (w.heap.size) w1)
  go_enter Try.func10, Try.ntmps10
  go_wp2_with (go_at_call 57; refine (HV _).out.mono ?_; rintro r v1 ⟨b1, b2, rfl, hb1, hb2, hg⟩; have HR : Hid (v1.heap[w.heap.size + 1]? = some (.cells #[.nilFunc, .nilFunc] 32 (0, 0))) := (hg.block (by rw [alloc_size, HZ.out]; omega)).trans HN.out; have HK2 : Hid (Gr ((w.alloc (.cells #[.string nm] 9)).alloc (.cells #[.nilFunc, .nilFunc] 32)) v1 ∧ v1.cell? ⟨b1, 0, none⟩ = some (.func (.func 58) #[] #[]) ∧ v1.cell? ⟨b2, 0, none⟩ = some (.func (.func 62) #[] #[.pointer (some ⟨w.heap.size, 0, none⟩)])) := ⟨hg, hb1, hb2⟩; clear hb1 hb2 hg; obtain ⟨d0, d1, d2, d3⟩ := At2.of_row HR.out)
  have HF : ∀ (p : Nat) (u : Value), p ≠ w.heap.size + 1 → v1.cell? ⟨p, 0, none⟩ = some u → (((v1.setCell ⟨w.heap.size + 1, 0, none⟩ (.func (.func 111) #[] #[.pointer (some ⟨b1, 0, none⟩)])).setCell ⟨w.heap.size + 1, 1, none⟩ (.func (.func 112) #[] #[.pointer (some ⟨b2, 0, none⟩)]))).cell? ⟨p, 0, none⟩ = some u := fun p u hp hu => cell_setCell_ne (cell_setCell_ne hu hp) hp
  have HNE : ∀ (p : Nat) (f : Fn) (c : Array Value) , v1.cell? ⟨p, 0, none⟩ = some (.func f #[] c) → p ≠ w.heap.size + 1 := fun p f c h he => by subst he; rw [d0] at h; cases h
  refine bodyPost_ret (results_cell_row rfl _ _ (w.heap.size + 1) _ #[.func (.func 111) #[] #[.pointer (some ⟨b1, 0, none⟩)], .func (.func 112) #[] #[.pointer (some ⟨b2, 0, none⟩)]] (0, 0) (.struct _) rfl (heap_setCell_same _ _ 1 _ _ _ (heap_setCell_same _ _ 0 _ _ _ HR.out)) Try.underlying32 rfl (by kernel_rfl)) rfl ⟨_, rfl, ⟨b1, b2, w.heap.size, rfl, ?_, ?_, ?_⟩, ?_⟩
  · exact HF _ _ (HNE _ _ _ HK2.out.2.1) HK2.out.2.1
  · exact HF _ _ (HNE _ _ _ HK2.out.2.2) HK2.out.2.2
  · exact HF _ _ (by omega) (HK2.out.1.cells hK.out)
  · exact ((HG0.out.trans HK2.out.1).setCell (by show w.heap.size ≤ w.heap.size + 1; omega) _).setCell (by show w.heap.size ≤ w.heap.size + 1; omega) _
theorem qu_eq1 (b : Nat) (w : World) : (binOp .eql 29 (.func (.func 111) #[] #[.pointer (some ⟨b, 0, none⟩)]) .nilFunc).run Try.prog w = .ok (.bool false) w := by kernel_rfl
theorem qu_eq2 (b : Nat) (w : World) : (binOp .eql 30 (.func (.func 112) #[] #[.pointer (some ⟨b, 0, none⟩)]) .nilFunc).run Try.prog w = .ok (.bool false) w := by kernel_rfl
theorem qu_bytes (nm : ByteArray) (most : Nat) (ttl : Nat) (tries : Nat) (dead : ByteArray) (h0 : most < 4294967296) (h1 : U64 ttl) (h2 : tries < 4294967296) (h3 : dead.size ≤ 1000000) (v : Value) (x0 : ByteArray) (w : World) (hv : quF w v x0) :
    Calls Try.prog 11 #[v, .agg #[.string nm, .int .u32 (most : Nat), .int .u64 (ttl : Nat), .int .u32 (tries : Nat), .string dead]] w fun r w' => r = .returned (.string (B (Oct.be 1 1) ++ quBytes most ttl tries dead)) ∧ Gr w w' := by
  obtain ⟨b1, b2, p0, rfl, hb1, hb2, hc0⟩ := hv
  have hn1 := qu_eq1
  have HP := Lib.hid hb1
  clear hb1 hb2 hc0
  have HG : Hid (Gr w ((w.alloc (.cells #[.func (.func 111) #[] #[.pointer (some ⟨b1, 0, none⟩)], .func (.func 112) #[] #[.pointer (some ⟨b2, 0, none⟩)]] 32)).alloc (.cells #[.string nm, .int .u32 (most : Nat), .int .u64 (ttl : Nat), .int .u32 (tries : Nat), .string dead] 25))) := ((Gr.refl w).alloc _).alloc _
  have c1 := Lib.hid (qu_vput nm most ttl tries dead h0 h1 h2 h3 b1 ((w.alloc (.cells #[.func (.func 111) #[] #[.pointer (some ⟨b1, 0, none⟩)], .func (.func 112) #[] #[.pointer (some ⟨b2, 0, none⟩)]] 32)).alloc (.cells #[.string nm, .int .u32 (most : Nat), .int .u64 (ttl : Nat), .int .u32 (tries : Nat), .string dead] 25)) (HG.out.cells HP.out))
  generalize B (Oct.be 1 1) ++ quBytes most ttl tries dead = q at *
  go_enter Try.func11, Try.ntmps11
  go_wp2_with (go_at_call 111; refine c1.out.mono ?_; rintro r v1 ⟨rfl, hg⟩)
  go_ret
  exact ⟨rfl, HG.out.trans hg⟩
end Go.Proofs.Ytncbbaieoehbjaa
