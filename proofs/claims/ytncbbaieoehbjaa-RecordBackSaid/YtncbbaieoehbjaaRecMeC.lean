/- Layer 19: Messages: the codec, and one as its bytes (printed by recgen.py). -/
import Derived.Test.YtncbbaieoehbjaaRecMeA
import Derived.Test.YtncbbaieoehbjaaRecBase
namespace Go.Proofs.Ytncbbaieoehbjaa
open Go.RowKit
set_option linter.unusedVariables false
set_option linter.unusedSimpArgs false
set_option maxRecDepth 100000
set_option maxHeartbeats 2000000
def meF (w : World) (v : Value) (nm : ByteArray) (id : Nat) : Prop := ∃ b1 b2 p0 p1 : Nat, v = .agg #[.func (.func 114) #[] #[.pointer (some ⟨b1, 0, none⟩)], .func (.func 115) #[] #[.pointer (some ⟨b2, 0, none⟩)]] ∧ w.cell? ⟨b1, 0, none⟩ = some (.func (.func 68) #[] #[]) ∧ w.cell? ⟨b2, 0, none⟩ = some (.func (.func 69) #[] #[.pointer (some ⟨p0, 0, none⟩), .pointer (some ⟨p1, 0, none⟩)]) ∧ w.cell? ⟨p0, 0, none⟩ = some (.string nm) ∧ w.cell? ⟨p1, 0, none⟩ = some (.int .u64 (id : Nat))
theorem meF.gr {w w' : World} {v : Value} {nm : ByteArray} {id : Nat} (h : meF w v nm id) (hg : Gr w w') : meF w' v nm id := by
  obtain ⟨b1, b2, p0, p1, rfl, h0, h1, h2, h3⟩ := h
  exact ⟨b1, b2, p0, p1, rfl, hg.cells h0, hg.cells h1, hg.cells h2, hg.cells h3⟩
theorem me_ver (p0 p1 : Nat) (w : World) :
    Calls Try.prog 67 #[.func (.func 68) #[] #[], .func (.func 69) #[] #[.pointer (some ⟨p0, 0, none⟩), .pointer (some ⟨p1, 0, none⟩)]] w fun r w' => ∃ b1 b2 : Nat, r = .returned (.agg #[.func (.func 114) #[] #[.pointer (some ⟨b1, 0, none⟩)], .func (.func 115) #[] #[.pointer (some ⟨b2, 0, none⟩)]]) ∧ w'.cell? ⟨b1, 0, none⟩ = some (.func (.func 68) #[] #[]) ∧ w'.cell? ⟨b2, 0, none⟩ = some (.func (.func 69) #[] #[.pointer (some ⟨p0, 0, none⟩), .pointer (some ⟨p1, 0, none⟩)]) ∧ Gr w w' := by
  have HA := Lib.hid (heap_alloc3 w (.cells #[.func (.func 68) #[] #[]] 34) (.cells #[.func (.func 69) #[] #[.pointer (some ⟨p0, 0, none⟩), .pointer (some ⟨p1, 0, none⟩)]] 35) (.cells #[.func (.func 114) #[] #[.pointer (some ⟨w.heap.size, 0, none⟩)], .func (.func 115) #[] #[.pointer (some ⟨w.heap.size + 1, 0, none⟩)]] 37))
  have HG : Hid (Gr w (((w.alloc (.cells #[.func (.func 68) #[] #[]] 34)).alloc (.cells #[.func (.func 69) #[] #[.pointer (some ⟨p0, 0, none⟩), .pointer (some ⟨p1, 0, none⟩)]] 35)).alloc (.cells #[.func (.func 114) #[] #[.pointer (some ⟨w.heap.size, 0, none⟩)], .func (.func 115) #[] #[.pointer (some ⟨w.heap.size + 1, 0, none⟩)]] 37))) := (((Gr.refl w).alloc _).alloc _).alloc _
  go_enter Try.func67, Try.ntmps67
  go_wp2
  refine bodyPost_ret (results_cell_row rfl _ _ (w.heap.size + 2) _ #[.func (.func 114) #[] #[.pointer (some ⟨w.heap.size, 0, none⟩)], .func (.func 115) #[] #[.pointer (some ⟨w.heap.size + 1, 0, none⟩)]] (0, 0) (.struct _) rfl HA.out.2.2 Try.underlying37 rfl (by kernel_rfl)) rfl ⟨w.heap.size, w.heap.size + 1, rfl, ?_, ?_, HG.out⟩
  · rw [cell_of_row _ _ 0 _ _ _ HA.out.1]; rfl
  · rw [cell_of_row _ _ 0 _ _ _ HA.out.2.1]; rfl
theorem me_mk (nm : ByteArray) (id : Nat) (w : World) :
    Calls Try.prog 13 #[.string nm, .int .u64 (id : Nat)] w fun r w' => ∃ v, r = .returned v ∧ meF w' v nm id ∧ Gr w w' := by
  have HG0 : Hid (Gr w (((w.alloc (.cells #[.string nm] 9)).alloc (.cells #[.int .u64 (id : Nat)] 23)).alloc (.cells #[.nilFunc, .nilFunc] 37))) := by unfold Hid; exact (((Gr.refl w).alloc _).alloc _).alloc _
  have HN := Lib.hid (heap_alloc_last ((w.alloc (.cells #[.string nm] 9)).alloc (.cells #[.int .u64 (id : Nat)] 23)) (.cells #[.nilFunc, .nilFunc] 37))
  have k0 : (((w.alloc (.cells #[.string nm] 9)).alloc (.cells #[.int .u64 (id : Nat)] 23)).alloc (.cells #[.nilFunc, .nilFunc] 37)).cell? ⟨w.heap.size, 0, none⟩ = some (.string nm) := by
    have h := heap_alloc_last w (.cells #[.string nm] 9)
    have hc : (w.alloc (.cells #[.string nm] 9)).cell? ⟨w.heap.size, 0, none⟩ = some (.string nm) := by rw [cell_of_row _ _ 0 _ _ _ h]; rfl
    have hgr : Gr (w.alloc (.cells #[.string nm] 9)) (((w.alloc (.cells #[.string nm] 9)).alloc (.cells #[.int .u64 (id : Nat)] 23)).alloc (.cells #[.nilFunc, .nilFunc] 37)) := (((Gr.refl (w.alloc (.cells #[.string nm] 9))).alloc _).alloc _)
    have := hgr.cells hc
    simpa only [alloc_size, Nat.add_assoc] using this
  have k1 : (((w.alloc (.cells #[.string nm] 9)).alloc (.cells #[.int .u64 (id : Nat)] 23)).alloc (.cells #[.nilFunc, .nilFunc] 37)).cell? ⟨w.heap.size + 1, 0, none⟩ = some (.int .u64 (id : Nat)) := by
    have h := heap_alloc_last (w.alloc (.cells #[.string nm] 9)) (.cells #[.int .u64 (id : Nat)] 23)
    have hc : ((w.alloc (.cells #[.string nm] 9)).alloc (.cells #[.int .u64 (id : Nat)] 23)).cell? ⟨(w.alloc (.cells #[.string nm] 9)).heap.size, 0, none⟩ = some (.int .u64 (id : Nat)) := by rw [cell_of_row _ _ 0 _ _ _ h]; rfl
    have hgr : Gr ((w.alloc (.cells #[.string nm] 9)).alloc (.cells #[.int .u64 (id : Nat)] 23)) (((w.alloc (.cells #[.string nm] 9)).alloc (.cells #[.int .u64 (id : Nat)] 23)).alloc (.cells #[.nilFunc, .nilFunc] 37)) := ((Gr.refl ((w.alloc (.cells #[.string nm] 9)).alloc (.cells #[.int .u64 (id : Nat)] 23))).alloc _)
    have := hgr.cells hc
    simpa only [alloc_size, Nat.add_assoc] using this
  have HZ : Hid (((w.alloc (.cells #[.string nm] 9)).alloc (.cells #[.int .u64 (id : Nat)] 23)).heap.size = w.heap.size + 2) := by unfold Hid; simp only [alloc_size]
  rw [HZ.out] at HN
  have hK : Hid ((((w.alloc (.cells #[.string nm] 9)).alloc (.cells #[.int .u64 (id : Nat)] 23)).alloc (.cells #[.nilFunc, .nilFunc] 37)).cell? ⟨w.heap.size, 0, none⟩ = some (.string nm) ∧ (((w.alloc (.cells #[.string nm] 9)).alloc (.cells #[.int .u64 (id : Nat)] 23)).alloc (.cells #[.nilFunc, .nilFunc] 37)).cell? ⟨w.heap.size + 1, 0, none⟩ = some (.int .u64 (id : Nat))) := ⟨k0, k1⟩
  clear k0 k1
  have HV := fun w1 => Lib.hid (me_ver (w.heap.size) (w.heap.size + 1) w1)
  go_enter Try.func13, Try.ntmps13
  go_wp2_with (go_at_call 67; refine (HV _).out.mono ?_; rintro r v1 ⟨b1, b2, rfl, hb1, hb2, hg⟩; have HR : Hid (v1.heap[w.heap.size + 2]? = some (.cells #[.nilFunc, .nilFunc] 37 (0, 0))) := (hg.block (by rw [alloc_size, HZ.out]; omega)).trans HN.out; have HK2 : Hid (Gr (((w.alloc (.cells #[.string nm] 9)).alloc (.cells #[.int .u64 (id : Nat)] 23)).alloc (.cells #[.nilFunc, .nilFunc] 37)) v1 ∧ v1.cell? ⟨b1, 0, none⟩ = some (.func (.func 68) #[] #[]) ∧ v1.cell? ⟨b2, 0, none⟩ = some (.func (.func 69) #[] #[.pointer (some ⟨w.heap.size, 0, none⟩), .pointer (some ⟨w.heap.size + 1, 0, none⟩)])) := ⟨hg, hb1, hb2⟩; clear hb1 hb2 hg; obtain ⟨d0, d1, d2, d3⟩ := At2.of_row HR.out)
  have HF : ∀ (p : Nat) (u : Value), p ≠ w.heap.size + 2 → v1.cell? ⟨p, 0, none⟩ = some u → (((v1.setCell ⟨w.heap.size + 2, 0, none⟩ (.func (.func 114) #[] #[.pointer (some ⟨b1, 0, none⟩)])).setCell ⟨w.heap.size + 2, 1, none⟩ (.func (.func 115) #[] #[.pointer (some ⟨b2, 0, none⟩)]))).cell? ⟨p, 0, none⟩ = some u := fun p u hp hu => cell_setCell_ne (cell_setCell_ne hu hp) hp
  have HNE : ∀ (p : Nat) (f : Fn) (c : Array Value) , v1.cell? ⟨p, 0, none⟩ = some (.func f #[] c) → p ≠ w.heap.size + 2 := fun p f c h he => by subst he; rw [d0] at h; cases h
  refine bodyPost_ret (results_cell_row rfl _ _ (w.heap.size + 2) _ #[.func (.func 114) #[] #[.pointer (some ⟨b1, 0, none⟩)], .func (.func 115) #[] #[.pointer (some ⟨b2, 0, none⟩)]] (0, 0) (.struct _) rfl (heap_setCell_same _ _ 1 _ _ _ (heap_setCell_same _ _ 0 _ _ _ HR.out)) Try.underlying37 rfl (by kernel_rfl)) rfl ⟨_, rfl, ⟨b1, b2, w.heap.size, w.heap.size + 1, rfl, ?_, ?_, ?_, ?_⟩, ?_⟩
  · exact HF _ _ (HNE _ _ _ HK2.out.2.1) HK2.out.2.1
  · exact HF _ _ (HNE _ _ _ HK2.out.2.2) HK2.out.2.2
  · exact HF _ _ (by omega) (HK2.out.1.cells hK.out.1)
  · exact HF _ _ (by omega) (HK2.out.1.cells hK.out.2)
  · exact ((HG0.out.trans HK2.out.1).setCell (by show w.heap.size ≤ w.heap.size + 2; omega) _).setCell (by show w.heap.size ≤ w.heap.size + 2; omega) _
theorem me_eq1 (b : Nat) (w : World) : (binOp .eql 34 (.func (.func 114) #[] #[.pointer (some ⟨b, 0, none⟩)]) .nilFunc).run Try.prog w = .ok (.bool false) w := by kernel_rfl
theorem me_eq2 (b : Nat) (w : World) : (binOp .eql 35 (.func (.func 115) #[] #[.pointer (some ⟨b, 0, none⟩)]) .nilFunc).run Try.prog w = .ok (.bool false) w := by kernel_rfl
theorem me_bytes (nm : ByteArray) (id : Nat) (tries : Nat) (ttl : Nat) (body : ByteArray) (h0 : tries < 4294967296) (h1 : U64 ttl) (h2 : body.size ≤ 1000000) (v : Value) (x0 : ByteArray) (x1 : Nat) (w : World) (hv : meF w v x0 x1) :
    Calls Try.prog 14 #[v, .agg #[.string nm, .int .u64 (id : Nat), .int .u32 (tries : Nat), .int .u64 (ttl : Nat), .string body]] w fun r w' => r = .returned (.string (B (Oct.be 1 1) ++ meBytes tries ttl body)) ∧ Gr w w' := by
  obtain ⟨b1, b2, p0, p1, rfl, hb1, hb2, hc0, hc1⟩ := hv
  have hn1 := me_eq1
  have HP := Lib.hid hb1
  clear hb1 hb2 hc0 hc1
  have HG : Hid (Gr w ((w.alloc (.cells #[.func (.func 114) #[] #[.pointer (some ⟨b1, 0, none⟩)], .func (.func 115) #[] #[.pointer (some ⟨b2, 0, none⟩)]] 37)).alloc (.cells #[.string nm, .int .u64 (id : Nat), .int .u32 (tries : Nat), .int .u64 (ttl : Nat), .string body] 27))) := ((Gr.refl w).alloc _).alloc _
  have c1 := Lib.hid (me_vput nm id tries ttl body h0 h1 h2 b1 ((w.alloc (.cells #[.func (.func 114) #[] #[.pointer (some ⟨b1, 0, none⟩)], .func (.func 115) #[] #[.pointer (some ⟨b2, 0, none⟩)]] 37)).alloc (.cells #[.string nm, .int .u64 (id : Nat), .int .u32 (tries : Nat), .int .u64 (ttl : Nat), .string body] 27)) (HG.out.cells HP.out))
  generalize B (Oct.be 1 1) ++ meBytes tries ttl body = q at *
  go_enter Try.func14, Try.ntmps14
  go_wp2_with (go_at_call 114; refine c1.out.mono ?_; rintro r v1 ⟨rfl, hg⟩)
  go_ret
  exact ⟨rfl, HG.out.trans hg⟩
end Go.Proofs.Ytncbbaieoehbjaa
