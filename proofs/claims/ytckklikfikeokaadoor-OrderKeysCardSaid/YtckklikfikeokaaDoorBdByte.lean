/- strings.Builder's WriteByte, with the frame. -/
import Derived.Test.YtckklikfikeokaaDoorBd3
import Derived.Test.YtckklikfikeokaaDoorOwn2
import Derived.Test.YtckklikfikeokaaDoorOrdW1
namespace Go.Proofs.YtckklikfikeokaaDoor
open Go.RowKit
set_option linter.unusedVariables false
set_option linter.unusedSimpArgs false
set_option maxRecDepth 100000
set_option maxHeartbeats 1000000
theorem Kp.ch {w0 w w' : World} {b r : Nat} {G : Option Nat} (h : Kp b G w w') (hg : Ch r w0 w) (hb : w0.heap.size ≤ b) (hG : ∀ g, G = some g → w0.heap.size ≤ g) : Ch r w0 w' :=
  ⟨h.os.trans hg.os, h.tape.trans hg.tape, h.output.trans hg.output, Nat.le_trans hg.size h.size,
   fun k hk hr => (h.block k (Nat.lt_of_lt_of_le hk hg.size) (by omega) (fun e => by have := hG k e.symm; omega)).trans (hg.block k hk hr)⟩
theorem Bd.ch {w w' : World} {b r : Nat} {G : Option Nat} {l : List UInt8} (h : Bd w b G l) (hg : Ch r w w') (hb : b ≠ r) (hG : ∀ g, G = some g → g ≠ r) : Bd w' b G l :=
  h.kept (hg.block b h.blk.1 hb) fun g he => hg.block g (h.blk.2 g he).2 (hG g he)
theorem RdAt.kp {w w' : World} {b r : Nat} {G : Option Nat} {s : ByteArray} {e : Int} (h : RdAt w r s e) (hk : Kp b G w w') (hb : r ≠ b) (hG : ∀ g, G = some g → r ≠ g) : RdAt w' r s e :=
  h.of_block (hk.block r h.lt hb (fun he => hG r he.symm rfl))
theorem own_kept {w w' : World} {base e k n : Nat} {v : Value} {xs : List Value} (h : w.ownsRow base e k v n xs) (hb : ∀ g, v.ownBlock = some g → w'.heap[g]? = w.heap[g]?) : w'.ownsRow base e k v n xs := by
  refine ⟨h.1, ?_⟩
  rcases h.2 with hn | ⟨g, cap, cur, rfl, hbg, hgg, rest⟩
  · exact .inl hn
  · exact .inr ⟨g, cap, cur, rfl, hbg, (hb g rfl).trans hgg, rest⟩
theorem bd_byte (b : Nat) (G : Option Nat) (l : List UInt8) (c : UInt8) (w : World) (h : Bd w b G l) (hlen : l.length ≤ 1000000) :
    Calls Tryd.prog 56 #[.pointer (some ⟨b, 0, none⟩), .int .u8 (c.toNat : Nat)] w fun e w' => ∃ G', e = .returned .nilIface ∧ Bd w' b G' (l ++ [c]) ∧ Kp b G w w' ∧ (G' = G ∨ ∀ g, G' = some g → w.heap.size ≤ g) := by
  obtain ⟨i0, hi, hz0, hz1, hz2⟩ := info_parts bld_infoByte
  have hblk := h.blk
  obtain ⟨p, v, hp, hrow, hown, hne, rfl, hnil⟩ := h
  have cK := Lib.hid (bd_check b p v w hp hrow)
  have HO := Lib.hid hown
  have HNE := Lib.hid hne
  have HB := Lib.hid hblk
  clear hp hrow hown hne hnil hblk
  go_enter Tryd.func56, Tryd.ntmps56
  go_wp2_with (go_at_call 49; refine cK.out.mono ?_)
  rintro e w1 ⟨rfl, hrow1, hk1⟩
  have c0 : w1.cell? ⟨b, 0, none⟩ = some (.pointer (some ⟨b, 0, none⟩)) := by rw [cell_of_row _ _ 0 _ _ _ hrow1]; rfl
  have c1 : w1.cell? ⟨b, 1, none⟩ = some v := by rw [cell_of_row _ _ 1 _ _ _ hrow1]; rfl
  have HK := Lib.hid (And.intro hrow1 hk1)
  obtain ⟨A, cap, rfl⟩ : ∃ A cap, v = .slice A l.length cap := by
    rcases HO.out.2 with ⟨hv, hz⟩ | ⟨g, cap, cur, hv, _⟩
    · exact ⟨none, 0, by rw [hv, hz]⟩
    · exact ⟨_, _, hv⟩
  have HW : Hid (∀ k, k < w.heap.size → k ≠ b → (w1.alloc (.cells #[.int .u8 (c.toNat : Nat)] 5)).heap[k]? = w.heap[k]?) :=
    fun k hk hkb => ((Gr.refl w1).alloc _ |>.block (Nat.lt_of_lt_of_le hk hk1.size)).trans (hk1.block k hk hkb (by simp))
  have HOW : Hid ((w1.alloc (.cells #[.int .u8 (c.toNat : Nat)] 5)).ownsRow b 5 1 (.slice A l.length cap) l.length (Lib.byteCells l)) :=
    own_kept HO.out fun g hg => by have := HB.out.2 g hg; exact HW.out g this.2 (by omega)
  have HRW : Hid ((w1.alloc (.cells #[.int .u8 (c.toNat : Nat)] 5)).heap[b]? = some (.cells #[.pointer (some ⟨b, 0, none⟩), .slice A l.length cap] 64 (0, 0))) :=
    ((Gr.refl w1).alloc _ |>.block (lt_of_row hrow1)).trans hrow1
  have HZ : Hid (b ≤ (w1.alloc (.cells #[.int .u8 (c.toNat : Nat)] 5)).heap.size ∧ w.heap.size ≤ (w1.alloc (.cells #[.int .u8 (c.toNat : Nat)] 5)).heap.size) := by
    unfold Hid; rw [alloc_size]; have := hk1.size; have := HB.out.1; omega
  clear hrow1 hk1
  go_wp2_with (at_builtin; refine wpList_append_lies _ rfl _ _ 62 rfl b 5 i0 _ 1 1 Tryd.underlying62 hi hz0 hz1 hz2 rfl (by omega) (.slice A l.length cap) l.length (Lib.byteCells l) rfl HOW.out ⟨w1.heap.size, 0, none⟩ 1 1 [.int .u8 (c.toNat : Nat)] rfl rfl (World.news_of_block (cs := #[.int .u8 (c.toNat : Nat)]) (heap_alloc_last w1 _)) (fun u hu => by simp at hu; rcases hu with rfl; rfl) (by omega) (show l.length + 1 ≤ 9223372036854775807 by omega) (show (l.length + 1) * 1 ≤ 140737488355328 by omega) HZ.out.1 _ rfl ?_; intro gg cc w2 hown2 hgrow hat hlt5; have hbne : Hid (b ≠ gg) := (by unfold Hid; rcases hat with he | he; (· intro e; exact HNE.out (by rw [he, e])); (have h1 := lt_of_row HRW.out; omega)); have hb2 : w2.heap[b]? = some (.cells #[.pointer (some ⟨b, 0, none⟩), .slice A l.length cap] 64 (0, 0)) := (by rw [hgrow.block b (lt_of_row HRW.out) (fun e => HNE.out e.symm)]; exact HRW.out); have d0 := row_cell hb2 0 _ rfl; have d1 := row_cell hb2 1 _ rfl; have f1 : w2.frozen? ⟨b, 1, none⟩ = false := frozen_of_row _ _ 1 _ _ hb2; have HW2 := Lib.hid (And.intro hown2 (And.intro hgrow (And.intro hat hb2))); clear hown2 hgrow hat hb2)
  go_ret
  refine ⟨some gg, rfl, ⟨.pointer (some ⟨b, 0, none⟩), .slice (some ⟨gg, 0, none⟩) (l.length + 1) cc, .inr rfl, heap_setCell_same _ _ 1 _ _ _ HW2.out.2.2.2, ?_, ?_, rfl, fun h => by simp at h⟩, ?_, ?_⟩
  · rw [List.length_append, Lib.byteCells_append, List.length_singleton]
    refine own_kept HW2.out.1 fun g hg => ?_
    cases hg
    exact ((Ch.refl b w2).setCell 1 _).block gg hlt5 (fun e => hbne.out e.symm)
  · intro h; cases h; exact hbne.out rfl
  · refine ⟨?_, ?_, ?_, ?_, ?_⟩
    · exact HW2.out.2.1.os.trans HK.out.2.os
    · exact HW2.out.2.1.tape.trans HK.out.2.tape
    · exact HW2.out.2.1.output.trans HK.out.2.output
    · rw [setCell_size]; exact Nat.le_trans HZ.out.2 HW2.out.2.1.size
    · intro k hk hkb hkG
      rw [((Ch.refl b w2).setCell 1 _).block k (by have := HW2.out.2.1.size; have := HZ.out.2; omega) hkb, HW2.out.2.1.block k (by have := HZ.out.2; omega) hkG]
      exact HW.out k hk hkb
  · rcases HW2.out.2.2.1 with he | he
    · exact .inl he.symm
    · exact .inr fun g hg => by cases hg; rw [he]; exact HZ.out.2
end Go.Proofs.YtckklikfikeokaaDoor
