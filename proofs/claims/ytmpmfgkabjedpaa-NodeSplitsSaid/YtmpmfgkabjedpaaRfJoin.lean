/- Layer 10: the document's Join (printed by rfjoin_gen.py). -/
import Derived.Test.YtmpmfgkabjedpaaNdM
namespace Go.Proofs.Ytmpmfgkabjedpaa
open Go.RowKit
set_option linter.unusedVariables false
set_option linter.unusedSimpArgs false
set_option maxRecDepth 100000
set_option maxHeartbeats 4000000
def rfJ (leaf : Bool) (key : ByteArray) (ys : List Ce) : List Ce := if leaf then ys else setC1 key ys
theorem rfJ_len (leaf : Bool) (key : ByteArray) (ys : List Ce) : (rfJ leaf key ys).length = ys.length := by
  unfold rfJ; split
  · rfl
  · exact setC1_len key ys
structure JW (w U : World) (g : Nat) (leaf : Bool) (NA NB : Array Value) (B : Option Addr) (n cb : Nat) (zs : List Ce) : Prop where
  gr : Gr w U
  a : U.heap[g]? = some (.cells NA 32 (0, 0))
  b : U.heap[g + 1]? = some (.cells NB 32 (0, 0))
  r : U.heap[g + 1 + 1]? = some (.cells #[.bool false, .slice none 0 0] 32 (0, 0))
  m : U.heap[g + 1 + 1 + 1]? = some (.cells #[.bool leaf, .slice B n cb] 32 (0, 0))
  own : Own U (g + 4) 59 4 ceCell B cb zs
  ln : zs.length = n
  hg : w.heap.size = g
section
variable {w U U' : World} {g : Nat} {leaf : Bool} {NA NB : Array Value} {B B2 : Option Addr} {n n2 cb cb2 : Nat} {zs zs2 : List Ce}
theorem JW.step (h : JW w U g leaf NA NB B n cb zs) (hg : Gr U U') : JW w U' g leaf NA NB B n cb zs :=
  ⟨h.gr.trans hg, (hg.block (lt_of_row h.a)).trans h.a, (hg.block (lt_of_row h.b)).trans h.b, (hg.block (lt_of_row h.r)).trans h.r, (hg.block (lt_of_row h.m)).trans h.m, h.own.gr hg, h.ln, h.hg⟩
/-- an append to m.L, and the new slice put there -/
theorem JW.push (h : JW w U g leaf NA NB B n cb zs) (hgrow : U.grownBy U' (Value.slice B n cb).ownBlock) (hown : Own U' (g + 4) 59 4 ceCell B2 cb2 zs2) (hn : zs2.length = n2) :
    JW w (U'.setCell ⟨g + 1 + 1 + 1, 1, none⟩ (.slice B2 n2 cb2)) g leaf NA NB B2 n2 cb2 zs2 := by
  have hb : ∀ k, k < U.heap.size → k < g + 4 → U'.heap[k]? = U.heap[k]? := fun k h1 h2 => hgrow.block k h1 (fun he => by
    have := (h.own.lt (by rw [← ownOf_eq B n cb]; exact he.symm)).2; omega)
  have hg := h.hg
  have ho := h.own
  obtain ⟨rfl⟩ := h.ln
  have hgr : Gr w U' := ho.grown hgrow h.gr (by omega)
  have l0 := lt_of_row h.a
  have l1 := lt_of_row h.b
  have l2 := lt_of_row h.r
  have l3 := lt_of_row h.m
  refine ⟨((Ch.refl (g + 1 + 1 + 1) U').setCell 1 _).gr hgr (by omega), ?_, ?_, ?_, ?_, ?_, hn, hg⟩
  · exact (heap_setCell_other _ _ _ _ (by show g ≠ g + 1 + 1 + 1; omega)).trans ((hb g l0 (by omega)).trans h.a)
  · exact (heap_setCell_other _ _ _ _ (by show g + 1 ≠ g + 1 + 1 + 1; omega)).trans ((hb _ l1 (by omega)).trans h.b)
  · exact (heap_setCell_other _ _ _ _ (by show g + 1 + 1 ≠ g + 1 + 1 + 1; omega)).trans ((hb _ l2 (by omega)).trans h.r)
  · exact heap_setCell_same _ _ 1 _ _ _ ((hb _ l3 (by omega)).trans h.m)
  · exact hown.ch ((Ch.refl (g + 1 + 1 + 1) U').setCell 1 _) (fun e => by have := (hown.lt e).2; omega)
end
theorem heap_alloc4 (w : World) (a b c d : Obj) : ((((w.alloc a).alloc b).alloc c).alloc d).heap[w.heap.size]? = some a ∧ ((((w.alloc a).alloc b).alloc c).alloc d).heap[w.heap.size + 1]? = some b ∧ ((((w.alloc a).alloc b).alloc c).alloc d).heap[w.heap.size + 1 + 1]? = some c ∧ ((((w.alloc a).alloc b).alloc c).alloc d).heap[w.heap.size + 1 + 1 + 1]? = some d := by
  have h3 := heap_alloc3 w a b c
  have g2 : Gr (((w.alloc a).alloc b).alloc c) ((((w.alloc a).alloc b).alloc c).alloc d) := (Gr.refl _).alloc _
  have h4 := heap_alloc_last (((w.alloc a).alloc b).alloc c) d
  simp only [alloc_size] at h4
  exact ⟨(g2.block (lt_of_row h3.1)).trans h3.1, (g2.block (lt_of_row h3.2.1)).trans h3.2.1, (g2.block (lt_of_row h3.2.2)).trans h3.2.2, h4⟩
theorem rf_joinN (leaf : Bool) (va vb : Value) (key : ByteArray) (xs ys : List Ce) (l1 : xs.length ≤ 1000) (l2 : ys.length ≤ 1000) (w : World) (ha : RfAt w leaf va xs) (hb : RfAt w leaf vb ys) :
    Calls Try.prog 15 #[va, .string key, vb] w fun r w' => ∃ v, r = .returned v ∧ RfAt w' leaf v (xs ++ rfJ leaf key ys) ∧ Gr w w' := by
  obtain ⟨A, c1, rfl, hs1, h1, m1⟩ := ha
  obtain ⟨A2, c2, rfl, hs2, h2, m2⟩ := hb
  obtain ⟨ii, hii, hz0, hz1, hz2⟩ := info_parts sl_info_ce
  unfold maxLen at m1 m2
  obtain ⟨W, hW⟩ : ∃ W, W = ((((w.alloc (.cells #[.bool leaf, .slice A xs.length c1] 32)).alloc (.cells #[.bool leaf, .slice A2 ys.length c2] 32)).alloc (.cells #[.bool false, .slice none 0 0] 32)).alloc (.cells #[.bool leaf, .slice none 0 0] 32)) := ⟨_, rfl⟩
  have h4 := heap_alloc4 w (.cells #[.bool leaf, .slice A xs.length c1] 32) (.cells #[.bool leaf, .slice A2 ys.length c2] 32) (.cells #[.bool false, .slice none 0 0] 32) (.cells #[.bool leaf, .slice none 0 0] 32)
  have HJ : Hid (JW w ((((w.alloc (.cells #[.bool leaf, .slice A xs.length c1] 32)).alloc (.cells #[.bool leaf, .slice A2 ys.length c2] 32)).alloc (.cells #[.bool false, .slice none 0 0] 32)).alloc (.cells #[.bool leaf, .slice none 0 0] 32)) w.heap.size leaf #[.bool leaf, .slice A xs.length c1] #[.bool leaf, .slice A2 ys.length c2] none 0 0 []) :=
    ⟨((((Gr.refl w).alloc _).alloc _).alloc _).alloc _, h4.1, h4.2.1, h4.2.2.1, h4.2.2.2, Own.nil _ _ _ _ _, rfl, rfl⟩
  have HS1 := Lib.hid hs1
  have HS2 := Lib.hid hs2
  clear hs1 hs2 h4 hW
  by_cases hx : xs = []
  · subst hx
    simp only [List.length_nil] at *
    have b1 : ((((w.alloc (.cells #[.bool leaf, .slice A 0 c1] 32)).alloc (.cells #[.bool leaf, .slice A2 ys.length c2] 32)).alloc (.cells #[.bool false, .slice none 0 0] 32)).alloc (.cells #[.bool leaf, .slice none 0 0] 32)).cell? ⟨w.heap.size + 1, 1, none⟩ = some (.slice A2 ys.length c2) := row_cell HJ.out.b 1 _ rfl
    go_enter Try.func15, Try.ntmps15
    go_wp2_with (at_builtin; refine wpList_append_none _ rfl _ _ 22 rfl 59 ii Try.underlying22 hii none 0 0 (Nat.le_refl _) A c1 rfl rfl ?_)
    have HJ1 := HJ
    clear HJ
    generalize ((((w.alloc (.cells #[.bool leaf, .slice A 0 c1] 32)).alloc (.cells #[.bool leaf, .slice A2 ys.length c2] 32)).alloc (.cells #[.bool false, .slice none 0 0] 32)).alloc (.cells #[.bool leaf, .slice none 0 0] 32)) = U0 at *
    generalize hgw : w.heap.size = g at *
    have HGW := Lib.hid hgw
    clear hgw b1
    have HRL := Lib.hid (rfJ_len leaf key ys)
    go_loopw [22] (fun i wr => ∃ (k : Nat) (B : Option Addr) (n cb : Nat), k ≤ ys.length ∧ i = .int .i64 (k : Nat) ∧ n = 0 + k ∧ Hid (JW w wr g leaf #[.bool leaf, .slice A 0 c1] #[.bool leaf, .slice A2 ys.length c2] B n cb (([] : List Ce) ++ (rfJ leaf key ys).take k))) (fun i _ => ys.length - (intOf i).toNat)
    case atStart => exact ⟨0, _, _, _, by omega, rfl, rfl, by rw [List.take_zero, List.append_nil]; exact HJ1.out⟩
    case round =>
      obtain ⟨k, B, n, cb, hk, rfl, hn, HR⟩ := hrel
      have g0 : wr.cell? ⟨g, 0, none⟩ = some (.bool leaf) := row_cell HR.out.a 0 _ rfl
      have gm : wr.cell? ⟨g + 1 + 1 + 1, 1, none⟩ = some (.slice B n cb) := row_cell HR.out.m 1 _ rfl
      by_cases hlt : k < ys.length
      · rcases HS2.out with h0 | ⟨a2, off2, rfl, hcell⟩
        · subst h0; simp at hlt
        have hget := List.getElem?_eq_getElem hlt
        generalize ys[k] = x at *
        obtain ⟨e0, e1, e2, e3⟩ := x
        have a0 := HR.out.gr.cells (hcell k _ hget 0 _ rfl)
        have a1 := HR.out.gr.cells (hcell k _ hget 1 _ rfl)
        have a2' := HR.out.gr.cells (hcell k _ hget 2 _ rfl)
        have a3 := HR.out.gr.cells (hcell k _ hget 3 _ rfl)
        simp only [Nat.add_zero] at a0
        clear hcell
        have HGT := Lib.hid hget
        clear hget
        have hnb : n ≤ 2000 := by omega
        have HNN := Lib.hid hn
        clear hn
        cases leaf
        · by_cases hk0 : k = 0
          · subst hk0
            simp only [Nat.zero_mul, Nat.add_zero] at a0 a1 a2' a3
            have hC : Hid ((rfJ false key ys).take (0 + 1) = (rfJ false key ys).take 0 ++ [(key, e1, e2, e3)]) := by
              have h := HGT.out
              cases ys with
              | nil => simp at h
              | cons y yt => simp at h; subst h; rfl
            have HR2 : Hid (JW w ((wr.alloc (.cells #[.string key, .string e1, .int .u32 (e2 : Nat), .int .u32 (e3 : Nat)] 59)).alloc (.cells #[.string key, .string e1, .int .u32 (e2 : Nat), .int .u32 (e3 : Nat)] 59)) g false #[.bool false, .slice A 0 c1] #[.bool false, .slice (some ⟨a2, off2, none⟩) ys.length c2] B n cb (([] : List Ce) ++ (rfJ false key ys).take 0)) := HR.out.step (((Gr.refl wr).alloc _).alloc _)
            have HNW := heap_alloc_last (wr.alloc (.cells #[.string key, .string e1, .int .u32 (e2 : Nat), .int .u32 (e3 : Nat)] 59)) (.cells #[.string key, .string e1, .int .u32 (e2 : Nat), .int .u32 (e3 : Nat)] 59)
            rw [alloc_size] at HNW
            have HNX := Lib.hid HNW
            clear HNW
            have HOW : Hid (((wr.alloc (.cells #[.string key, .string e1, .int .u32 (e2 : Nat), .int .u32 (e3 : Nat)] 59)).alloc (.cells #[.string key, .string e1, .int .u32 (e2 : Nat), .int .u32 (e3 : Nat)] 59)).ownsRow (g + 4) 59 4 (.slice B n cb) n ((([] : List Ce) ++ (rfJ false key ys).take 0).flatMap ceCell)) := by
              have h := HR2.out.own
              unfold Own at h
              rw [HR2.out.ln] at h
              exact h
            have hg4 : g + 4 ≤ ((wr.alloc (.cells #[.string key, .string e1, .int .u32 (e2 : Nat), .int .u32 (e3 : Nat)] 59)).alloc (.cells #[.string key, .string e1, .int .u32 (e2 : Nat), .int .u32 (e3 : Nat)] 59)).heap.size := by have := lt_of_row HR2.out.m; omega
            have HG4 := Lib.hid hg4
            clear hg4
            have gL : (wr.alloc (.cells #[.string e0, .string e1, .int .u32 (e2 : Nat), .int .u32 (e3 : Nat)] 59)).cell? ⟨g, 0, none⟩ = some (.bool false) := ((Gr.refl wr).alloc _).cells g0
            have gmA : (wr.alloc (.cells #[.string key, .string e1, .int .u32 (e2 : Nat), .int .u32 (e3 : Nat)] 59)).cell? ⟨g + 1 + 1 + 1, 1, none⟩ = some (.slice B n cb) := ((Gr.refl wr).alloc _).cells gm
            go_wp2_with (at_builtin; refine wpList_append_lies _ rfl _ _ 22 rfl (g + 4) 59 ii _ 4 40 Try.underlying22 hii hz0 hz1 hz2 rfl (by omega) (.slice B n cb) n ((([] : List Ce) ++ (rfJ false key ys).take 0).flatMap ceCell) rfl HOW.out ⟨wr.heap.size + 1, 0, none⟩ 1 1 [.string key, .string e1, .int .u32 (e2 : Nat), .int .u32 (e3 : Nat)] rfl rfl (World.news_of_block (cs := #[.string key, .string e1, .int .u32 (e2 : Nat), .int .u32 (e3 : Nat)]) HNX.out) (fun u hu => by simp at hu; rcases hu with rfl | rfl | rfl | rfl <;> rfl) (by omega) (by unfold maxLen; omega) (by omega) HG4.out _ rfl ?_; intro gg cc v5 hown hgrow hat hlt5; have HO5 : Hid (Own v5 (g + 4) 59 4 ceCell (some ⟨gg, 0, none⟩) cc ((([] : List Ce) ++ (rfJ false key ys).take 0) ++ [(key, e1, e2, e3)])) := Own.push (key, e1, e2, e3) (by rw [HR2.out.ln]; exact hown); have HJ5 : Hid (JW w (v5.setCell ⟨g + 1 + 1 + 1, 1, none⟩ (.slice (some ⟨gg, 0, none⟩) (n + 1) cc)) g false #[.bool false, .slice A 0 c1] #[.bool false, .slice (some ⟨a2, off2, none⟩) ys.length c2] (some ⟨gg, 0, none⟩) (n + 1) cc ((([] : List Ce) ++ (rfJ false key ys).take 0) ++ [(key, e1, e2, e3)])) := HR2.out.push hgrow HO5.out (by rw [List.length_append, HR2.out.ln]; rfl); have hblk := (hgrow.block _ (lt_of_row HR2.out.m) (fun he => by have h3 := (HR2.out.own.lt (by rw [← ownOf_eq B n cb]; exact he.symm)).2; omega)).trans HR2.out.m; have c1m := row_cell hblk 1 _ rfl; have f1m := frozen_of_row _ _ 1 _ _ hblk; clear hown hgrow hat hblk)
            go_roundw
            case rel => exact ⟨0 + 1, some ⟨gg, 0, none⟩, n + 1, cc, by omega, by go_num, by have := HNN.out; omega, by rw [hC.out, ← List.append_assoc]; exact HJ5.out⟩
            case measure => (simp [intOf]; try omega)
          · have hk1 : ¬ (k : Int) = 0 := by omega
            have hC : Hid ((rfJ false key ys).take (k + 1) = (rfJ false key ys).take k ++ [(e0, e1, e2, e3)]) := by
              have h := HGT.out
              obtain ⟨k', rfl⟩ : ∃ k', k = k' + 1 := ⟨k - 1, by omega⟩
              cases ys with
              | nil => simp at h
              | cons y yt =>
                have h2 : ((key, y.2) :: yt)[k' + 1]? = some (e0, e1, e2, e3) := by simpa using h
                show (((key, y.2) :: yt).take (k' + 1 + 1)) = ((key, y.2) :: yt).take (k' + 1) ++ [(e0, e1, e2, e3)]
                rw [List.take_add_one, h2]; rfl
            have HR2 : Hid (JW w ((wr.alloc (.cells #[.string e0, .string e1, .int .u32 (e2 : Nat), .int .u32 (e3 : Nat)] 59)).alloc (.cells #[.string e0, .string e1, .int .u32 (e2 : Nat), .int .u32 (e3 : Nat)] 59)) g false #[.bool false, .slice A 0 c1] #[.bool false, .slice (some ⟨a2, off2, none⟩) ys.length c2] B n cb (([] : List Ce) ++ (rfJ false key ys).take k)) := HR.out.step (((Gr.refl wr).alloc _).alloc _)
            have HNW := heap_alloc_last (wr.alloc (.cells #[.string e0, .string e1, .int .u32 (e2 : Nat), .int .u32 (e3 : Nat)] 59)) (.cells #[.string e0, .string e1, .int .u32 (e2 : Nat), .int .u32 (e3 : Nat)] 59)
            rw [alloc_size] at HNW
            have HNX := Lib.hid HNW
            clear HNW
            have HOW : Hid (((wr.alloc (.cells #[.string e0, .string e1, .int .u32 (e2 : Nat), .int .u32 (e3 : Nat)] 59)).alloc (.cells #[.string e0, .string e1, .int .u32 (e2 : Nat), .int .u32 (e3 : Nat)] 59)).ownsRow (g + 4) 59 4 (.slice B n cb) n ((([] : List Ce) ++ (rfJ false key ys).take k).flatMap ceCell)) := by
              have h := HR2.out.own
              unfold Own at h
              rw [HR2.out.ln] at h
              exact h
            have hg4 : g + 4 ≤ ((wr.alloc (.cells #[.string e0, .string e1, .int .u32 (e2 : Nat), .int .u32 (e3 : Nat)] 59)).alloc (.cells #[.string e0, .string e1, .int .u32 (e2 : Nat), .int .u32 (e3 : Nat)] 59)).heap.size := by have := lt_of_row HR2.out.m; omega
            have HG4 := Lib.hid hg4
            clear hg4
            have gL : (wr.alloc (.cells #[.string e0, .string e1, .int .u32 (e2 : Nat), .int .u32 (e3 : Nat)] 59)).cell? ⟨g, 0, none⟩ = some (.bool false) := ((Gr.refl wr).alloc _).cells g0
            have gmA : (wr.alloc (.cells #[.string e0, .string e1, .int .u32 (e2 : Nat), .int .u32 (e3 : Nat)] 59)).cell? ⟨g + 1 + 1 + 1, 1, none⟩ = some (.slice B n cb) := ((Gr.refl wr).alloc _).cells gm
            go_wp2_with (at_builtin; refine wpList_append_lies _ rfl _ _ 22 rfl (g + 4) 59 ii _ 4 40 Try.underlying22 hii hz0 hz1 hz2 rfl (by omega) (.slice B n cb) n ((([] : List Ce) ++ (rfJ false key ys).take k).flatMap ceCell) rfl HOW.out ⟨wr.heap.size + 1, 0, none⟩ 1 1 [.string e0, .string e1, .int .u32 (e2 : Nat), .int .u32 (e3 : Nat)] rfl rfl (World.news_of_block (cs := #[.string e0, .string e1, .int .u32 (e2 : Nat), .int .u32 (e3 : Nat)]) HNX.out) (fun u hu => by simp at hu; rcases hu with rfl | rfl | rfl | rfl <;> rfl) (by omega) (by unfold maxLen; omega) (by omega) HG4.out _ rfl ?_; intro gg cc v5 hown hgrow hat hlt5; have HO5 : Hid (Own v5 (g + 4) 59 4 ceCell (some ⟨gg, 0, none⟩) cc ((([] : List Ce) ++ (rfJ false key ys).take k) ++ [(e0, e1, e2, e3)])) := Own.push (e0, e1, e2, e3) (by rw [HR2.out.ln]; exact hown); have HJ5 : Hid (JW w (v5.setCell ⟨g + 1 + 1 + 1, 1, none⟩ (.slice (some ⟨gg, 0, none⟩) (n + 1) cc)) g false #[.bool false, .slice A 0 c1] #[.bool false, .slice (some ⟨a2, off2, none⟩) ys.length c2] (some ⟨gg, 0, none⟩) (n + 1) cc ((([] : List Ce) ++ (rfJ false key ys).take k) ++ [(e0, e1, e2, e3)])) := HR2.out.push hgrow HO5.out (by rw [List.length_append, HR2.out.ln]; rfl); have hblk := (hgrow.block _ (lt_of_row HR2.out.m) (fun he => by have h3 := (HR2.out.own.lt (by rw [← ownOf_eq B n cb]; exact he.symm)).2; omega)).trans HR2.out.m; have c1m := row_cell hblk 1 _ rfl; have f1m := frozen_of_row _ _ 1 _ _ hblk; clear hown hgrow hat hblk)
            go_roundw
            case rel => exact ⟨k + 1, some ⟨gg, 0, none⟩, n + 1, cc, by omega, by go_num, by have := HNN.out; omega, by rw [hC.out, ← List.append_assoc]; exact HJ5.out⟩
            case measure => (simp [intOf]; try omega)
        · have hC : Hid ((rfJ true key ys).take (k + 1) = (rfJ true key ys).take k ++ [(e0, e1, e2, e3)]) := by
            show ys.take (k + 1) = ys.take k ++ [(e0, e1, e2, e3)]
            rw [List.take_add_one, HGT.out]; rfl
          by_cases hk0 : k = 0
          · subst hk0
            simp only [Nat.zero_mul, Nat.add_zero] at a0 a1 a2' a3
            have HR2 : Hid (JW w ((wr.alloc (.cells #[.string e0, .string e1, .int .u32 (e2 : Nat), .int .u32 (e3 : Nat)] 59)).alloc (.cells #[.string e0, .string e1, .int .u32 (e2 : Nat), .int .u32 (e3 : Nat)] 59)) g true #[.bool true, .slice A 0 c1] #[.bool true, .slice (some ⟨a2, off2, none⟩) ys.length c2] B n cb (([] : List Ce) ++ (rfJ true key ys).take 0)) := HR.out.step (((Gr.refl wr).alloc _).alloc _)
            have HNW := heap_alloc_last (wr.alloc (.cells #[.string e0, .string e1, .int .u32 (e2 : Nat), .int .u32 (e3 : Nat)] 59)) (.cells #[.string e0, .string e1, .int .u32 (e2 : Nat), .int .u32 (e3 : Nat)] 59)
            rw [alloc_size] at HNW
            have HNX := Lib.hid HNW
            clear HNW
            have HOW : Hid (((wr.alloc (.cells #[.string e0, .string e1, .int .u32 (e2 : Nat), .int .u32 (e3 : Nat)] 59)).alloc (.cells #[.string e0, .string e1, .int .u32 (e2 : Nat), .int .u32 (e3 : Nat)] 59)).ownsRow (g + 4) 59 4 (.slice B n cb) n ((([] : List Ce) ++ (rfJ true key ys).take 0).flatMap ceCell)) := by
              have h := HR2.out.own
              unfold Own at h
              rw [HR2.out.ln] at h
              exact h
            have hg4 : g + 4 ≤ ((wr.alloc (.cells #[.string e0, .string e1, .int .u32 (e2 : Nat), .int .u32 (e3 : Nat)] 59)).alloc (.cells #[.string e0, .string e1, .int .u32 (e2 : Nat), .int .u32 (e3 : Nat)] 59)).heap.size := by have := lt_of_row HR2.out.m; omega
            have HG4 := Lib.hid hg4
            clear hg4
            have gL : (wr.alloc (.cells #[.string e0, .string e1, .int .u32 (e2 : Nat), .int .u32 (e3 : Nat)] 59)).cell? ⟨g, 0, none⟩ = some (.bool true) := ((Gr.refl wr).alloc _).cells g0
            have gmA : (wr.alloc (.cells #[.string e0, .string e1, .int .u32 (e2 : Nat), .int .u32 (e3 : Nat)] 59)).cell? ⟨g + 1 + 1 + 1, 1, none⟩ = some (.slice B n cb) := ((Gr.refl wr).alloc _).cells gm
            go_wp2_with (at_builtin; refine wpList_append_lies _ rfl _ _ 22 rfl (g + 4) 59 ii _ 4 40 Try.underlying22 hii hz0 hz1 hz2 rfl (by omega) (.slice B n cb) n ((([] : List Ce) ++ (rfJ true key ys).take 0).flatMap ceCell) rfl HOW.out ⟨wr.heap.size + 1, 0, none⟩ 1 1 [.string e0, .string e1, .int .u32 (e2 : Nat), .int .u32 (e3 : Nat)] rfl rfl (World.news_of_block (cs := #[.string e0, .string e1, .int .u32 (e2 : Nat), .int .u32 (e3 : Nat)]) HNX.out) (fun u hu => by simp at hu; rcases hu with rfl | rfl | rfl | rfl <;> rfl) (by omega) (by unfold maxLen; omega) (by omega) HG4.out _ rfl ?_; intro gg cc v5 hown hgrow hat hlt5; have HO5 : Hid (Own v5 (g + 4) 59 4 ceCell (some ⟨gg, 0, none⟩) cc ((([] : List Ce) ++ (rfJ true key ys).take 0) ++ [(e0, e1, e2, e3)])) := Own.push (e0, e1, e2, e3) (by rw [HR2.out.ln]; exact hown); have HJ5 : Hid (JW w (v5.setCell ⟨g + 1 + 1 + 1, 1, none⟩ (.slice (some ⟨gg, 0, none⟩) (n + 1) cc)) g true #[.bool true, .slice A 0 c1] #[.bool true, .slice (some ⟨a2, off2, none⟩) ys.length c2] (some ⟨gg, 0, none⟩) (n + 1) cc ((([] : List Ce) ++ (rfJ true key ys).take 0) ++ [(e0, e1, e2, e3)])) := HR2.out.push hgrow HO5.out (by rw [List.length_append, HR2.out.ln]; rfl); have hblk := (hgrow.block _ (lt_of_row HR2.out.m) (fun he => by have h3 := (HR2.out.own.lt (by rw [← ownOf_eq B n cb]; exact he.symm)).2; omega)).trans HR2.out.m; have c1m := row_cell hblk 1 _ rfl; have f1m := frozen_of_row _ _ 1 _ _ hblk; clear hown hgrow hat hblk)
            go_roundw
            case rel => exact ⟨0 + 1, some ⟨gg, 0, none⟩, n + 1, cc, by omega, by go_num, by have := HNN.out; omega, by rw [hC.out, ← List.append_assoc]; exact HJ5.out⟩
            case measure => (simp [intOf]; try omega)
          · have hk1 : ¬ (k : Int) = 0 := by omega
            have HR2 : Hid (JW w ((wr.alloc (.cells #[.string e0, .string e1, .int .u32 (e2 : Nat), .int .u32 (e3 : Nat)] 59)).alloc (.cells #[.string e0, .string e1, .int .u32 (e2 : Nat), .int .u32 (e3 : Nat)] 59)) g true #[.bool true, .slice A 0 c1] #[.bool true, .slice (some ⟨a2, off2, none⟩) ys.length c2] B n cb (([] : List Ce) ++ (rfJ true key ys).take k)) := HR.out.step (((Gr.refl wr).alloc _).alloc _)
            have HNW := heap_alloc_last (wr.alloc (.cells #[.string e0, .string e1, .int .u32 (e2 : Nat), .int .u32 (e3 : Nat)] 59)) (.cells #[.string e0, .string e1, .int .u32 (e2 : Nat), .int .u32 (e3 : Nat)] 59)
            rw [alloc_size] at HNW
            have HNX := Lib.hid HNW
            clear HNW
            have HOW : Hid (((wr.alloc (.cells #[.string e0, .string e1, .int .u32 (e2 : Nat), .int .u32 (e3 : Nat)] 59)).alloc (.cells #[.string e0, .string e1, .int .u32 (e2 : Nat), .int .u32 (e3 : Nat)] 59)).ownsRow (g + 4) 59 4 (.slice B n cb) n ((([] : List Ce) ++ (rfJ true key ys).take k).flatMap ceCell)) := by
              have h := HR2.out.own
              unfold Own at h
              rw [HR2.out.ln] at h
              exact h
            have hg4 : g + 4 ≤ ((wr.alloc (.cells #[.string e0, .string e1, .int .u32 (e2 : Nat), .int .u32 (e3 : Nat)] 59)).alloc (.cells #[.string e0, .string e1, .int .u32 (e2 : Nat), .int .u32 (e3 : Nat)] 59)).heap.size := by have := lt_of_row HR2.out.m; omega
            have HG4 := Lib.hid hg4
            clear hg4
            have gL : (wr.alloc (.cells #[.string e0, .string e1, .int .u32 (e2 : Nat), .int .u32 (e3 : Nat)] 59)).cell? ⟨g, 0, none⟩ = some (.bool true) := ((Gr.refl wr).alloc _).cells g0
            have gmA : (wr.alloc (.cells #[.string e0, .string e1, .int .u32 (e2 : Nat), .int .u32 (e3 : Nat)] 59)).cell? ⟨g + 1 + 1 + 1, 1, none⟩ = some (.slice B n cb) := ((Gr.refl wr).alloc _).cells gm
            go_wp2_with (at_builtin; refine wpList_append_lies _ rfl _ _ 22 rfl (g + 4) 59 ii _ 4 40 Try.underlying22 hii hz0 hz1 hz2 rfl (by omega) (.slice B n cb) n ((([] : List Ce) ++ (rfJ true key ys).take k).flatMap ceCell) rfl HOW.out ⟨wr.heap.size + 1, 0, none⟩ 1 1 [.string e0, .string e1, .int .u32 (e2 : Nat), .int .u32 (e3 : Nat)] rfl rfl (World.news_of_block (cs := #[.string e0, .string e1, .int .u32 (e2 : Nat), .int .u32 (e3 : Nat)]) HNX.out) (fun u hu => by simp at hu; rcases hu with rfl | rfl | rfl | rfl <;> rfl) (by omega) (by unfold maxLen; omega) (by omega) HG4.out _ rfl ?_; intro gg cc v5 hown hgrow hat hlt5; have HO5 : Hid (Own v5 (g + 4) 59 4 ceCell (some ⟨gg, 0, none⟩) cc ((([] : List Ce) ++ (rfJ true key ys).take k) ++ [(e0, e1, e2, e3)])) := Own.push (e0, e1, e2, e3) (by rw [HR2.out.ln]; exact hown); have HJ5 : Hid (JW w (v5.setCell ⟨g + 1 + 1 + 1, 1, none⟩ (.slice (some ⟨gg, 0, none⟩) (n + 1) cc)) g true #[.bool true, .slice A 0 c1] #[.bool true, .slice (some ⟨a2, off2, none⟩) ys.length c2] (some ⟨gg, 0, none⟩) (n + 1) cc ((([] : List Ce) ++ (rfJ true key ys).take k) ++ [(e0, e1, e2, e3)])) := HR2.out.push hgrow HO5.out (by rw [List.length_append, HR2.out.ln]; rfl); have hblk := (hgrow.block _ (lt_of_row HR2.out.m) (fun he => by have h3 := (HR2.out.own.lt (by rw [← ownOf_eq B n cb]; exact he.symm)).2; omega)).trans HR2.out.m; have c1m := row_cell hblk 1 _ rfl; have f1m := frozen_of_row _ _ 1 _ _ hblk; clear hown hgrow hat hblk)
            go_roundw
            case rel => exact ⟨k + 1, some ⟨gg, 0, none⟩, n + 1, cc, by omega, by go_num, by have := HNN.out; omega, by rw [hC.out, ← List.append_assoc]; exact HJ5.out⟩
            case measure => (simp [intOf]; try omega)
      · obtain rfl : k = ys.length := by omega
        have HNN := Lib.hid hn
        clear hn
        have hT : (rfJ leaf key ys).take ys.length = rfJ leaf key ys := by rw [← rfJ_len leaf key ys, List.take_length]
        rw [hT] at HR
        have z0 := row_cell HR.out.r 0 _ rfl
        have z1 := row_cell HR.out.r 1 _ rfl
        have fz0 := frozen_of_row _ _ 0 _ _ HR.out.r
        have fz1 := frozen_of_row _ _ 1 _ _ HR.out.r
        have gm0 : wr.cell? ⟨g + 1 + 1 + 1, 0, none⟩ = some (.bool leaf) := row_cell HR.out.m 0 _ rfl
        clear hT hlt
        go_wp2
        have hgw := HGW.out
        have hlen : (([] : List Ce) ++ rfJ leaf key ys).length = n := HR.out.ln
        have HOE := Lib.hid (HR.out.own.ch (((Ch.refl (g + 1 + 1) wr).setCell 0 (.bool leaf)).setCell 1 (.slice B n cb)) (fun e => by have := (HR.out.own.lt e).2; omega))
        have HGE := Lib.hid (set2_gr (g + 1 + 1) (.bool leaf) (.slice B n cb) HR.out.gr (by omega))
        have HRE := Lib.hid (set2_same (.bool leaf) (.slice B n cb) HR.out.r)
        refine bodyPost_ret (results_cell_row rfl _ _ (g + 1 + 1) _ #[.bool leaf, .slice B n cb] (0, 0) (.struct _) rfl HRE.out Try.underlying32 rfl (by kernel_rfl)) rfl ⟨_, rfl, ⟨B, cb, by first | rw [hlen] | (rw [← hlen]; rfl), HOE.out.slice ceCell_len, HOE.out.cap_le.1, HOE.out.cap_le.2⟩, HGE.out⟩
  · have hpos : 0 < xs.length := List.length_pos_iff.2 hx
    rcases HS1.out with h0 | ⟨a, off, rfl, hcell⟩
    · exact absurd h0 hx
    have HN := Lib.hid (slice_news ceCell_len hcell)
    clear hcell hx
    go_enter Try.func15, Try.ntmps15
    go_wp2_with (at_builtin; refine wpList_append_lies _ rfl _ _ 22 rfl (w.heap.size + 4) 59 ii _ 4 40 Try.underlying22 hii hz0 hz1 hz2 rfl (by omega) (.slice none 0 0) 0 (([] : List Ce).flatMap ceCell) rfl (Own.nil _ _ _ _ _) ⟨a, off, none⟩ xs.length c1 (xs.flatMap ceCell) rfl (cells_len 4 ceCell_len xs) (fun j u hu => HJ.out.gr.cells (HN.out j u hu)) (cells_one ceCell_one xs) hpos (by unfold maxLen; omega) (by omega) (by simp only [alloc_size]; omega) _ rfl ?_; intro gA cA v5 hown hgrow hat hlt5; have HOA : Hid (Own v5 (w.heap.size + 4) 59 4 ceCell (some ⟨gA, 0, none⟩) cA ([] ++ xs)) := Own.app hown; have HJ1 : Hid (JW w (v5.setCell ⟨w.heap.size + 1 + 1 + 1, 1, none⟩ (.slice (some ⟨gA, 0, none⟩) xs.length cA)) w.heap.size leaf #[.bool leaf, .slice (some ⟨a, off, none⟩) xs.length c1] #[.bool leaf, .slice A2 ys.length c2] (some ⟨gA, 0, none⟩) xs.length cA xs) := HJ.out.push hgrow HOA.out rfl; have hblk : v5.heap[w.heap.size + 1 + 1 + 1]? = some (.cells #[.bool leaf, .slice none 0 0] 32 (0, 0)) := (hgrow.block _ (lt_of_row HJ.out.m) (fun he => by cases he)).trans HJ.out.m; have c1m := row_cell hblk 1 _ rfl; have f1m := frozen_of_row _ _ 1 _ _ hblk; have b1 : (v5.setCell ⟨w.heap.size + 1 + 1 + 1, 1, none⟩ (.slice (some ⟨gA, 0, none⟩) xs.length cA)).cell? ⟨w.heap.size + 1, 1, none⟩ = some (.slice A2 ys.length c2) := row_cell HJ1.out.b 1 _ rfl; clear hown hgrow hat hblk)
    clear HJ
    generalize (v5.setCell ⟨w.heap.size + 1 + 1 + 1, 1, none⟩ (.slice (some ⟨gA, 0, none⟩) xs.length cA)) = U0 at *
    generalize hgw : w.heap.size = g at *
    have HGW := Lib.hid hgw
    clear hgw hpos hlt5 HOA HN c1m f1m b1
    have HRL := Lib.hid (rfJ_len leaf key ys)
    go_loopw [22] (fun i wr => ∃ (k : Nat) (B : Option Addr) (n cb : Nat), k ≤ ys.length ∧ i = .int .i64 (k : Nat) ∧ n = xs.length + k ∧ Hid (JW w wr g leaf #[.bool leaf, .slice (some ⟨a, off, none⟩) xs.length c1] #[.bool leaf, .slice A2 ys.length c2] B n cb (xs ++ (rfJ leaf key ys).take k))) (fun i _ => ys.length - (intOf i).toNat)
    case atStart => exact ⟨0, _, _, _, by omega, rfl, rfl, by rw [List.take_zero, List.append_nil]; exact HJ1.out⟩
    case round =>
      obtain ⟨k, B, n, cb, hk, rfl, hn, HR⟩ := hrel
      have g0 : wr.cell? ⟨g, 0, none⟩ = some (.bool leaf) := row_cell HR.out.a 0 _ rfl
      have gm : wr.cell? ⟨g + 1 + 1 + 1, 1, none⟩ = some (.slice B n cb) := row_cell HR.out.m 1 _ rfl
      by_cases hlt : k < ys.length
      · rcases HS2.out with h0 | ⟨a2, off2, rfl, hcell⟩
        · subst h0; simp at hlt
        have hget := List.getElem?_eq_getElem hlt
        generalize ys[k] = x at *
        obtain ⟨e0, e1, e2, e3⟩ := x
        have a0 := HR.out.gr.cells (hcell k _ hget 0 _ rfl)
        have a1 := HR.out.gr.cells (hcell k _ hget 1 _ rfl)
        have a2' := HR.out.gr.cells (hcell k _ hget 2 _ rfl)
        have a3 := HR.out.gr.cells (hcell k _ hget 3 _ rfl)
        simp only [Nat.add_zero] at a0
        clear hcell
        have HGT := Lib.hid hget
        clear hget
        have hnb : n ≤ 2000 := by omega
        have HNN := Lib.hid hn
        clear hn
        cases leaf
        · by_cases hk0 : k = 0
          · subst hk0
            simp only [Nat.zero_mul, Nat.add_zero] at a0 a1 a2' a3
            have hC : Hid ((rfJ false key ys).take (0 + 1) = (rfJ false key ys).take 0 ++ [(key, e1, e2, e3)]) := by
              have h := HGT.out
              cases ys with
              | nil => simp at h
              | cons y yt => simp at h; subst h; rfl
            have HR2 : Hid (JW w ((wr.alloc (.cells #[.string key, .string e1, .int .u32 (e2 : Nat), .int .u32 (e3 : Nat)] 59)).alloc (.cells #[.string key, .string e1, .int .u32 (e2 : Nat), .int .u32 (e3 : Nat)] 59)) g false #[.bool false, .slice (some ⟨a, off, none⟩) xs.length c1] #[.bool false, .slice (some ⟨a2, off2, none⟩) ys.length c2] B n cb (xs ++ (rfJ false key ys).take 0)) := HR.out.step (((Gr.refl wr).alloc _).alloc _)
            have HNW := heap_alloc_last (wr.alloc (.cells #[.string key, .string e1, .int .u32 (e2 : Nat), .int .u32 (e3 : Nat)] 59)) (.cells #[.string key, .string e1, .int .u32 (e2 : Nat), .int .u32 (e3 : Nat)] 59)
            rw [alloc_size] at HNW
            have HNX := Lib.hid HNW
            clear HNW
            have HOW : Hid (((wr.alloc (.cells #[.string key, .string e1, .int .u32 (e2 : Nat), .int .u32 (e3 : Nat)] 59)).alloc (.cells #[.string key, .string e1, .int .u32 (e2 : Nat), .int .u32 (e3 : Nat)] 59)).ownsRow (g + 4) 59 4 (.slice B n cb) n ((xs ++ (rfJ false key ys).take 0).flatMap ceCell)) := by
              have h := HR2.out.own
              unfold Own at h
              rw [HR2.out.ln] at h
              exact h
            have hg4 : g + 4 ≤ ((wr.alloc (.cells #[.string key, .string e1, .int .u32 (e2 : Nat), .int .u32 (e3 : Nat)] 59)).alloc (.cells #[.string key, .string e1, .int .u32 (e2 : Nat), .int .u32 (e3 : Nat)] 59)).heap.size := by have := lt_of_row HR2.out.m; omega
            have HG4 := Lib.hid hg4
            clear hg4
            have gL : (wr.alloc (.cells #[.string e0, .string e1, .int .u32 (e2 : Nat), .int .u32 (e3 : Nat)] 59)).cell? ⟨g, 0, none⟩ = some (.bool false) := ((Gr.refl wr).alloc _).cells g0
            have gmA : (wr.alloc (.cells #[.string key, .string e1, .int .u32 (e2 : Nat), .int .u32 (e3 : Nat)] 59)).cell? ⟨g + 1 + 1 + 1, 1, none⟩ = some (.slice B n cb) := ((Gr.refl wr).alloc _).cells gm
            go_wp2_with (at_builtin; refine wpList_append_lies _ rfl _ _ 22 rfl (g + 4) 59 ii _ 4 40 Try.underlying22 hii hz0 hz1 hz2 rfl (by omega) (.slice B n cb) n ((xs ++ (rfJ false key ys).take 0).flatMap ceCell) rfl HOW.out ⟨wr.heap.size + 1, 0, none⟩ 1 1 [.string key, .string e1, .int .u32 (e2 : Nat), .int .u32 (e3 : Nat)] rfl rfl (World.news_of_block (cs := #[.string key, .string e1, .int .u32 (e2 : Nat), .int .u32 (e3 : Nat)]) HNX.out) (fun u hu => by simp at hu; rcases hu with rfl | rfl | rfl | rfl <;> rfl) (by omega) (by unfold maxLen; omega) (by omega) HG4.out _ rfl ?_; intro gg cc v5 hown hgrow hat hlt5; have HO5 : Hid (Own v5 (g + 4) 59 4 ceCell (some ⟨gg, 0, none⟩) cc ((xs ++ (rfJ false key ys).take 0) ++ [(key, e1, e2, e3)])) := Own.push (key, e1, e2, e3) (by rw [HR2.out.ln]; exact hown); have HJ5 : Hid (JW w (v5.setCell ⟨g + 1 + 1 + 1, 1, none⟩ (.slice (some ⟨gg, 0, none⟩) (n + 1) cc)) g false #[.bool false, .slice (some ⟨a, off, none⟩) xs.length c1] #[.bool false, .slice (some ⟨a2, off2, none⟩) ys.length c2] (some ⟨gg, 0, none⟩) (n + 1) cc ((xs ++ (rfJ false key ys).take 0) ++ [(key, e1, e2, e3)])) := HR2.out.push hgrow HO5.out (by rw [List.length_append, HR2.out.ln]; rfl); have hblk := (hgrow.block _ (lt_of_row HR2.out.m) (fun he => by have h3 := (HR2.out.own.lt (by rw [← ownOf_eq B n cb]; exact he.symm)).2; omega)).trans HR2.out.m; have c1m := row_cell hblk 1 _ rfl; have f1m := frozen_of_row _ _ 1 _ _ hblk; clear hown hgrow hat hblk)
            go_roundw
            case rel => exact ⟨0 + 1, some ⟨gg, 0, none⟩, n + 1, cc, by omega, by go_num, by have := HNN.out; omega, by rw [hC.out, ← List.append_assoc]; exact HJ5.out⟩
            case measure => (simp [intOf]; try omega)
          · have hk1 : ¬ (k : Int) = 0 := by omega
            have hC : Hid ((rfJ false key ys).take (k + 1) = (rfJ false key ys).take k ++ [(e0, e1, e2, e3)]) := by
              have h := HGT.out
              obtain ⟨k', rfl⟩ : ∃ k', k = k' + 1 := ⟨k - 1, by omega⟩
              cases ys with
              | nil => simp at h
              | cons y yt =>
                have h2 : ((key, y.2) :: yt)[k' + 1]? = some (e0, e1, e2, e3) := by simpa using h
                show (((key, y.2) :: yt).take (k' + 1 + 1)) = ((key, y.2) :: yt).take (k' + 1) ++ [(e0, e1, e2, e3)]
                rw [List.take_add_one, h2]; rfl
            have HR2 : Hid (JW w ((wr.alloc (.cells #[.string e0, .string e1, .int .u32 (e2 : Nat), .int .u32 (e3 : Nat)] 59)).alloc (.cells #[.string e0, .string e1, .int .u32 (e2 : Nat), .int .u32 (e3 : Nat)] 59)) g false #[.bool false, .slice (some ⟨a, off, none⟩) xs.length c1] #[.bool false, .slice (some ⟨a2, off2, none⟩) ys.length c2] B n cb (xs ++ (rfJ false key ys).take k)) := HR.out.step (((Gr.refl wr).alloc _).alloc _)
            have HNW := heap_alloc_last (wr.alloc (.cells #[.string e0, .string e1, .int .u32 (e2 : Nat), .int .u32 (e3 : Nat)] 59)) (.cells #[.string e0, .string e1, .int .u32 (e2 : Nat), .int .u32 (e3 : Nat)] 59)
            rw [alloc_size] at HNW
            have HNX := Lib.hid HNW
            clear HNW
            have HOW : Hid (((wr.alloc (.cells #[.string e0, .string e1, .int .u32 (e2 : Nat), .int .u32 (e3 : Nat)] 59)).alloc (.cells #[.string e0, .string e1, .int .u32 (e2 : Nat), .int .u32 (e3 : Nat)] 59)).ownsRow (g + 4) 59 4 (.slice B n cb) n ((xs ++ (rfJ false key ys).take k).flatMap ceCell)) := by
              have h := HR2.out.own
              unfold Own at h
              rw [HR2.out.ln] at h
              exact h
            have hg4 : g + 4 ≤ ((wr.alloc (.cells #[.string e0, .string e1, .int .u32 (e2 : Nat), .int .u32 (e3 : Nat)] 59)).alloc (.cells #[.string e0, .string e1, .int .u32 (e2 : Nat), .int .u32 (e3 : Nat)] 59)).heap.size := by have := lt_of_row HR2.out.m; omega
            have HG4 := Lib.hid hg4
            clear hg4
            have gL : (wr.alloc (.cells #[.string e0, .string e1, .int .u32 (e2 : Nat), .int .u32 (e3 : Nat)] 59)).cell? ⟨g, 0, none⟩ = some (.bool false) := ((Gr.refl wr).alloc _).cells g0
            have gmA : (wr.alloc (.cells #[.string e0, .string e1, .int .u32 (e2 : Nat), .int .u32 (e3 : Nat)] 59)).cell? ⟨g + 1 + 1 + 1, 1, none⟩ = some (.slice B n cb) := ((Gr.refl wr).alloc _).cells gm
            go_wp2_with (at_builtin; refine wpList_append_lies _ rfl _ _ 22 rfl (g + 4) 59 ii _ 4 40 Try.underlying22 hii hz0 hz1 hz2 rfl (by omega) (.slice B n cb) n ((xs ++ (rfJ false key ys).take k).flatMap ceCell) rfl HOW.out ⟨wr.heap.size + 1, 0, none⟩ 1 1 [.string e0, .string e1, .int .u32 (e2 : Nat), .int .u32 (e3 : Nat)] rfl rfl (World.news_of_block (cs := #[.string e0, .string e1, .int .u32 (e2 : Nat), .int .u32 (e3 : Nat)]) HNX.out) (fun u hu => by simp at hu; rcases hu with rfl | rfl | rfl | rfl <;> rfl) (by omega) (by unfold maxLen; omega) (by omega) HG4.out _ rfl ?_; intro gg cc v5 hown hgrow hat hlt5; have HO5 : Hid (Own v5 (g + 4) 59 4 ceCell (some ⟨gg, 0, none⟩) cc ((xs ++ (rfJ false key ys).take k) ++ [(e0, e1, e2, e3)])) := Own.push (e0, e1, e2, e3) (by rw [HR2.out.ln]; exact hown); have HJ5 : Hid (JW w (v5.setCell ⟨g + 1 + 1 + 1, 1, none⟩ (.slice (some ⟨gg, 0, none⟩) (n + 1) cc)) g false #[.bool false, .slice (some ⟨a, off, none⟩) xs.length c1] #[.bool false, .slice (some ⟨a2, off2, none⟩) ys.length c2] (some ⟨gg, 0, none⟩) (n + 1) cc ((xs ++ (rfJ false key ys).take k) ++ [(e0, e1, e2, e3)])) := HR2.out.push hgrow HO5.out (by rw [List.length_append, HR2.out.ln]; rfl); have hblk := (hgrow.block _ (lt_of_row HR2.out.m) (fun he => by have h3 := (HR2.out.own.lt (by rw [← ownOf_eq B n cb]; exact he.symm)).2; omega)).trans HR2.out.m; have c1m := row_cell hblk 1 _ rfl; have f1m := frozen_of_row _ _ 1 _ _ hblk; clear hown hgrow hat hblk)
            go_roundw
            case rel => exact ⟨k + 1, some ⟨gg, 0, none⟩, n + 1, cc, by omega, by go_num, by have := HNN.out; omega, by rw [hC.out, ← List.append_assoc]; exact HJ5.out⟩
            case measure => (simp [intOf]; try omega)
        · have hC : Hid ((rfJ true key ys).take (k + 1) = (rfJ true key ys).take k ++ [(e0, e1, e2, e3)]) := by
            show ys.take (k + 1) = ys.take k ++ [(e0, e1, e2, e3)]
            rw [List.take_add_one, HGT.out]; rfl
          by_cases hk0 : k = 0
          · subst hk0
            simp only [Nat.zero_mul, Nat.add_zero] at a0 a1 a2' a3
            have HR2 : Hid (JW w ((wr.alloc (.cells #[.string e0, .string e1, .int .u32 (e2 : Nat), .int .u32 (e3 : Nat)] 59)).alloc (.cells #[.string e0, .string e1, .int .u32 (e2 : Nat), .int .u32 (e3 : Nat)] 59)) g true #[.bool true, .slice (some ⟨a, off, none⟩) xs.length c1] #[.bool true, .slice (some ⟨a2, off2, none⟩) ys.length c2] B n cb (xs ++ (rfJ true key ys).take 0)) := HR.out.step (((Gr.refl wr).alloc _).alloc _)
            have HNW := heap_alloc_last (wr.alloc (.cells #[.string e0, .string e1, .int .u32 (e2 : Nat), .int .u32 (e3 : Nat)] 59)) (.cells #[.string e0, .string e1, .int .u32 (e2 : Nat), .int .u32 (e3 : Nat)] 59)
            rw [alloc_size] at HNW
            have HNX := Lib.hid HNW
            clear HNW
            have HOW : Hid (((wr.alloc (.cells #[.string e0, .string e1, .int .u32 (e2 : Nat), .int .u32 (e3 : Nat)] 59)).alloc (.cells #[.string e0, .string e1, .int .u32 (e2 : Nat), .int .u32 (e3 : Nat)] 59)).ownsRow (g + 4) 59 4 (.slice B n cb) n ((xs ++ (rfJ true key ys).take 0).flatMap ceCell)) := by
              have h := HR2.out.own
              unfold Own at h
              rw [HR2.out.ln] at h
              exact h
            have hg4 : g + 4 ≤ ((wr.alloc (.cells #[.string e0, .string e1, .int .u32 (e2 : Nat), .int .u32 (e3 : Nat)] 59)).alloc (.cells #[.string e0, .string e1, .int .u32 (e2 : Nat), .int .u32 (e3 : Nat)] 59)).heap.size := by have := lt_of_row HR2.out.m; omega
            have HG4 := Lib.hid hg4
            clear hg4
            have gL : (wr.alloc (.cells #[.string e0, .string e1, .int .u32 (e2 : Nat), .int .u32 (e3 : Nat)] 59)).cell? ⟨g, 0, none⟩ = some (.bool true) := ((Gr.refl wr).alloc _).cells g0
            have gmA : (wr.alloc (.cells #[.string e0, .string e1, .int .u32 (e2 : Nat), .int .u32 (e3 : Nat)] 59)).cell? ⟨g + 1 + 1 + 1, 1, none⟩ = some (.slice B n cb) := ((Gr.refl wr).alloc _).cells gm
            go_wp2_with (at_builtin; refine wpList_append_lies _ rfl _ _ 22 rfl (g + 4) 59 ii _ 4 40 Try.underlying22 hii hz0 hz1 hz2 rfl (by omega) (.slice B n cb) n ((xs ++ (rfJ true key ys).take 0).flatMap ceCell) rfl HOW.out ⟨wr.heap.size + 1, 0, none⟩ 1 1 [.string e0, .string e1, .int .u32 (e2 : Nat), .int .u32 (e3 : Nat)] rfl rfl (World.news_of_block (cs := #[.string e0, .string e1, .int .u32 (e2 : Nat), .int .u32 (e3 : Nat)]) HNX.out) (fun u hu => by simp at hu; rcases hu with rfl | rfl | rfl | rfl <;> rfl) (by omega) (by unfold maxLen; omega) (by omega) HG4.out _ rfl ?_; intro gg cc v5 hown hgrow hat hlt5; have HO5 : Hid (Own v5 (g + 4) 59 4 ceCell (some ⟨gg, 0, none⟩) cc ((xs ++ (rfJ true key ys).take 0) ++ [(e0, e1, e2, e3)])) := Own.push (e0, e1, e2, e3) (by rw [HR2.out.ln]; exact hown); have HJ5 : Hid (JW w (v5.setCell ⟨g + 1 + 1 + 1, 1, none⟩ (.slice (some ⟨gg, 0, none⟩) (n + 1) cc)) g true #[.bool true, .slice (some ⟨a, off, none⟩) xs.length c1] #[.bool true, .slice (some ⟨a2, off2, none⟩) ys.length c2] (some ⟨gg, 0, none⟩) (n + 1) cc ((xs ++ (rfJ true key ys).take 0) ++ [(e0, e1, e2, e3)])) := HR2.out.push hgrow HO5.out (by rw [List.length_append, HR2.out.ln]; rfl); have hblk := (hgrow.block _ (lt_of_row HR2.out.m) (fun he => by have h3 := (HR2.out.own.lt (by rw [← ownOf_eq B n cb]; exact he.symm)).2; omega)).trans HR2.out.m; have c1m := row_cell hblk 1 _ rfl; have f1m := frozen_of_row _ _ 1 _ _ hblk; clear hown hgrow hat hblk)
            go_roundw
            case rel => exact ⟨0 + 1, some ⟨gg, 0, none⟩, n + 1, cc, by omega, by go_num, by have := HNN.out; omega, by rw [hC.out, ← List.append_assoc]; exact HJ5.out⟩
            case measure => (simp [intOf]; try omega)
          · have hk1 : ¬ (k : Int) = 0 := by omega
            have HR2 : Hid (JW w ((wr.alloc (.cells #[.string e0, .string e1, .int .u32 (e2 : Nat), .int .u32 (e3 : Nat)] 59)).alloc (.cells #[.string e0, .string e1, .int .u32 (e2 : Nat), .int .u32 (e3 : Nat)] 59)) g true #[.bool true, .slice (some ⟨a, off, none⟩) xs.length c1] #[.bool true, .slice (some ⟨a2, off2, none⟩) ys.length c2] B n cb (xs ++ (rfJ true key ys).take k)) := HR.out.step (((Gr.refl wr).alloc _).alloc _)
            have HNW := heap_alloc_last (wr.alloc (.cells #[.string e0, .string e1, .int .u32 (e2 : Nat), .int .u32 (e3 : Nat)] 59)) (.cells #[.string e0, .string e1, .int .u32 (e2 : Nat), .int .u32 (e3 : Nat)] 59)
            rw [alloc_size] at HNW
            have HNX := Lib.hid HNW
            clear HNW
            have HOW : Hid (((wr.alloc (.cells #[.string e0, .string e1, .int .u32 (e2 : Nat), .int .u32 (e3 : Nat)] 59)).alloc (.cells #[.string e0, .string e1, .int .u32 (e2 : Nat), .int .u32 (e3 : Nat)] 59)).ownsRow (g + 4) 59 4 (.slice B n cb) n ((xs ++ (rfJ true key ys).take k).flatMap ceCell)) := by
              have h := HR2.out.own
              unfold Own at h
              rw [HR2.out.ln] at h
              exact h
            have hg4 : g + 4 ≤ ((wr.alloc (.cells #[.string e0, .string e1, .int .u32 (e2 : Nat), .int .u32 (e3 : Nat)] 59)).alloc (.cells #[.string e0, .string e1, .int .u32 (e2 : Nat), .int .u32 (e3 : Nat)] 59)).heap.size := by have := lt_of_row HR2.out.m; omega
            have HG4 := Lib.hid hg4
            clear hg4
            have gL : (wr.alloc (.cells #[.string e0, .string e1, .int .u32 (e2 : Nat), .int .u32 (e3 : Nat)] 59)).cell? ⟨g, 0, none⟩ = some (.bool true) := ((Gr.refl wr).alloc _).cells g0
            have gmA : (wr.alloc (.cells #[.string e0, .string e1, .int .u32 (e2 : Nat), .int .u32 (e3 : Nat)] 59)).cell? ⟨g + 1 + 1 + 1, 1, none⟩ = some (.slice B n cb) := ((Gr.refl wr).alloc _).cells gm
            go_wp2_with (at_builtin; refine wpList_append_lies _ rfl _ _ 22 rfl (g + 4) 59 ii _ 4 40 Try.underlying22 hii hz0 hz1 hz2 rfl (by omega) (.slice B n cb) n ((xs ++ (rfJ true key ys).take k).flatMap ceCell) rfl HOW.out ⟨wr.heap.size + 1, 0, none⟩ 1 1 [.string e0, .string e1, .int .u32 (e2 : Nat), .int .u32 (e3 : Nat)] rfl rfl (World.news_of_block (cs := #[.string e0, .string e1, .int .u32 (e2 : Nat), .int .u32 (e3 : Nat)]) HNX.out) (fun u hu => by simp at hu; rcases hu with rfl | rfl | rfl | rfl <;> rfl) (by omega) (by unfold maxLen; omega) (by omega) HG4.out _ rfl ?_; intro gg cc v5 hown hgrow hat hlt5; have HO5 : Hid (Own v5 (g + 4) 59 4 ceCell (some ⟨gg, 0, none⟩) cc ((xs ++ (rfJ true key ys).take k) ++ [(e0, e1, e2, e3)])) := Own.push (e0, e1, e2, e3) (by rw [HR2.out.ln]; exact hown); have HJ5 : Hid (JW w (v5.setCell ⟨g + 1 + 1 + 1, 1, none⟩ (.slice (some ⟨gg, 0, none⟩) (n + 1) cc)) g true #[.bool true, .slice (some ⟨a, off, none⟩) xs.length c1] #[.bool true, .slice (some ⟨a2, off2, none⟩) ys.length c2] (some ⟨gg, 0, none⟩) (n + 1) cc ((xs ++ (rfJ true key ys).take k) ++ [(e0, e1, e2, e3)])) := HR2.out.push hgrow HO5.out (by rw [List.length_append, HR2.out.ln]; rfl); have hblk := (hgrow.block _ (lt_of_row HR2.out.m) (fun he => by have h3 := (HR2.out.own.lt (by rw [← ownOf_eq B n cb]; exact he.symm)).2; omega)).trans HR2.out.m; have c1m := row_cell hblk 1 _ rfl; have f1m := frozen_of_row _ _ 1 _ _ hblk; clear hown hgrow hat hblk)
            go_roundw
            case rel => exact ⟨k + 1, some ⟨gg, 0, none⟩, n + 1, cc, by omega, by go_num, by have := HNN.out; omega, by rw [hC.out, ← List.append_assoc]; exact HJ5.out⟩
            case measure => (simp [intOf]; try omega)
      · obtain rfl : k = ys.length := by omega
        have HNN := Lib.hid hn
        clear hn
        have hT : (rfJ leaf key ys).take ys.length = rfJ leaf key ys := by rw [← rfJ_len leaf key ys, List.take_length]
        rw [hT] at HR
        have z0 := row_cell HR.out.r 0 _ rfl
        have z1 := row_cell HR.out.r 1 _ rfl
        have fz0 := frozen_of_row _ _ 0 _ _ HR.out.r
        have fz1 := frozen_of_row _ _ 1 _ _ HR.out.r
        have gm0 : wr.cell? ⟨g + 1 + 1 + 1, 0, none⟩ = some (.bool leaf) := row_cell HR.out.m 0 _ rfl
        clear hT hlt
        go_wp2
        have hgw := HGW.out
        have hlen : (xs ++ rfJ leaf key ys).length = n := HR.out.ln
        have HOE := Lib.hid (HR.out.own.ch (((Ch.refl (g + 1 + 1) wr).setCell 0 (.bool leaf)).setCell 1 (.slice B n cb)) (fun e => by have := (HR.out.own.lt e).2; omega))
        have HGE := Lib.hid (set2_gr (g + 1 + 1) (.bool leaf) (.slice B n cb) HR.out.gr (by omega))
        have HRE := Lib.hid (set2_same (.bool leaf) (.slice B n cb) HR.out.r)
        refine bodyPost_ret (results_cell_row rfl _ _ (g + 1 + 1) _ #[.bool leaf, .slice B n cb] (0, 0) (.struct _) rfl HRE.out Try.underlying32 rfl (by kernel_rfl)) rfl ⟨_, rfl, ⟨B, cb, by first | rw [hlen] | (rw [← hlen]; rfl), HOE.out.slice ceCell_len, HOE.out.cap_le.1, HOE.out.cap_le.2⟩, HGE.out⟩
end Go.Proofs.Ytmpmfgkabjedpaa
