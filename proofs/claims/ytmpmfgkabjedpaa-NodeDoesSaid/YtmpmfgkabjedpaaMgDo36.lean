/- Layer 10: the document's cell put in its place (printed by rfplc_gen.py). -/
import Derived.Test.YtmpmfgkabjedpaaMgDo35
namespace Go.Proofs.Ytmpmfgkabjedpaa
open Go.RowKit
set_option linter.unusedVariables false
set_option linter.unusedSimpArgs false
set_option maxRecDepth 100000
set_option maxHeartbeats 4000000
/-- what has been made of a cell more -/
def rpS (c : Ce) (s : List Ce × Bool) (x : Ce) : List Ce × Bool :=
  if s.2 = false ∧ Op.bytesLess x.1.toList c.1.toList = false then (if (c.1.toList == x.1.toList) = true then (s.1 ++ [c], true) else ((s.1 ++ [c]) ++ [x], true)) else (s.1 ++ [x], s.2)
def rpK (c : Ce) (zs : List Ce) : Nat → List Ce × Bool
  | 0 => ([], false)
  | k + 1 => match zs[k]? with | some x => rpS c (rpK c zs k) x | none => rpK c zs k
theorem rpK_step {c : Ce} {zs : List Ce} {k : Nat} {x : Ce} (h : zs[k]? = some x) : rpK c zs (k + 1) = rpS c (rpK c zs k) x := by
  show (match zs[k]? with | some x => rpS c (rpK c zs k) x | none => rpK c zs k) = _
  rw [h]
/-- all of them gone through -/
def rpE (c : Ce) (zs : List Ce) : List Ce := if (rpK c zs zs.length).2 = true then (rpK c zs zs.length).1 else (rpK c zs zs.length).1 ++ [c]
structure PW (w U : World) (g : Nat) (leaf : Bool) (NA NC : Array Value) (B : Option Addr) (n cb : Nat) (zs : List Ce) : Prop where
  gr : Gr w U
  a : U.heap[g]? = some (.cells NA 32 (0, 0))
  b : U.heap[g + 1]? = some (.cells NC 59 (0, 0))
  r : U.heap[g + 1 + 1]? = some (.cells #[.bool false, .slice none 0 0] 32 (0, 0))
  m : U.heap[g + 1 + 1 + 1]? = some (.cells #[.bool leaf, .slice B n cb] 32 (0, 0))
  own : Own U (g + 4) 59 4 ceCell B cb zs
  ln : zs.length = n
  hg : w.heap.size = g
section
variable {w U U' : World} {g : Nat} {leaf : Bool} {NA NC : Array Value} {B B2 : Option Addr} {n n2 cb cb2 : Nat} {zs zs2 : List Ce}
theorem PW.step (h : PW w U g leaf NA NC B n cb zs) (hg : Gr U U') : PW w U' g leaf NA NC B n cb zs :=
  ⟨h.gr.trans hg, (hg.block (lt_of_row h.a)).trans h.a, (hg.block (lt_of_row h.b)).trans h.b, (hg.block (lt_of_row h.r)).trans h.r, (hg.block (lt_of_row h.m)).trans h.m, h.own.gr hg, h.ln, h.hg⟩
theorem PW.push (h : PW w U g leaf NA NC B n cb zs) (hgrow : U.grownBy U' (Value.slice B n cb).ownBlock) (hown : Own U' (g + 4) 59 4 ceCell B2 cb2 zs2) (hn : zs2.length = n2) :
    PW w (U'.setCell ⟨g + 1 + 1 + 1, 1, none⟩ (.slice B2 n2 cb2)) g leaf NA NC B2 n2 cb2 zs2 := by
  have hb : ∀ k, k < U.heap.size → k < g + 4 → U'.heap[k]? = U.heap[k]? := fun k h1 h2 => hgrow.block k h1 (fun he => by
    have := (h.own.lt (by rw [← ownOf_eq B n cb]; exact he.symm)).2; omega)
  have hg := h.hg
  have ho := h.own
  obtain ⟨rfl⟩ := h.ln
  have hgr : Gr w U' := ho.grown hgrow h.gr (by omega)
  have l0 := lt_of_row h.a
  have l1 := lt_of_row h.b
  have l2 := lt_of_row h.r
  have l3 := lt_of_row h.m
  refine ⟨((Ch.refl (g + 1 + 1 + 1) U').setCell 1 _).gr hgr (by omega), ?_, ?_, ?_, ?_, ?_, hn, hg⟩
  · exact (heap_setCell_other _ _ _ _ (by show g ≠ g + 1 + 1 + 1; omega)).trans ((hb g l0 (by omega)).trans h.a)
  · exact (heap_setCell_other _ _ _ _ (by show g + 1 ≠ g + 1 + 1 + 1; omega)).trans ((hb _ l1 (by omega)).trans h.b)
  · exact (heap_setCell_other _ _ _ _ (by show g + 1 + 1 ≠ g + 1 + 1 + 1; omega)).trans ((hb _ l2 (by omega)).trans h.r)
  · exact heap_setCell_same _ _ 1 _ _ _ ((hb _ l3 (by omega)).trans h.m)
  · exact hown.ch ((Ch.refl (g + 1 + 1 + 1) U').setCell 1 _) (fun e => by have := (hown.lt e).2; omega)
end
theorem pl_world4 (w : World) (a b c d : Obj) : Gr w ((((w.alloc a).alloc b).alloc c).alloc d) ∧ ((((w.alloc a).alloc b).alloc c).alloc d).heap[w.heap.size]? = some a ∧ ((((w.alloc a).alloc b).alloc c).alloc d).heap[w.heap.size + 1]? = some b ∧ ((((w.alloc a).alloc b).alloc c).alloc d).heap[w.heap.size + 1 + 1]? = some c ∧ ((((w.alloc a).alloc b).alloc c).alloc d).heap[w.heap.size + 1 + 1 + 1]? = some d := by
  have h3 := heap_alloc3 w a b c
  have g2 : Gr (((w.alloc a).alloc b).alloc c) ((((w.alloc a).alloc b).alloc c).alloc d) := (Gr.refl _).alloc _
  have h4 := heap_alloc_last (((w.alloc a).alloc b).alloc c) d
  simp only [alloc_size] at h4
  exact ⟨((((Gr.refl w).alloc _).alloc _).alloc _).alloc _, (g2.block (lt_of_row h3.1)).trans h3.1, (g2.block (lt_of_row h3.2.1)).trans h3.2.1, (g2.block (lt_of_row h3.2.2)).trans h3.2.2, h4⟩
theorem rf_placed (leaf : Bool) (v : Value) (zs : List Ce) (hl : zs.length ≤ 1000) (a0 a1 : ByteArray) (a2 a3 : Nat) (w : World) (h : RfAt w leaf v zs) :
    Calls Try.prog 29 #[v, .agg #[.string a0, .string a1, .int .u32 (a2 : Nat), .int .u32 (a3 : Nat)]] w fun r w' => ∃ A n c, r = .returned (.agg #[.bool leaf, .slice A n c]) ∧ RfAt w' leaf (.agg #[.bool leaf, .slice A n c]) (rpE (a0, a1, a2, a3) zs) ∧ Gr w w' := by
  obtain ⟨A, c1, rfl, hs1, h1, m1⟩ := h
  obtain ⟨ii, hii, hz0, hz1, hz2⟩ := info_parts sl_info_ce
  unfold maxLen at m1
  obtain ⟨r9, r0, r1, r2, r3⟩ := pl_world4 w (.cells #[.bool leaf, .slice A zs.length c1] 32) (.cells #[.string a0, .string a1, .int .u32 (a2 : Nat), .int .u32 (a3 : Nat)] 59) (.cells #[.bool false, .slice none 0 0] 32) (.cells #[.bool leaf, .slice none 0 0] 32)
  have HJ : Hid (PW w ((((w.alloc (.cells #[.bool leaf, .slice A zs.length c1] 32)).alloc (.cells #[.string a0, .string a1, .int .u32 (a2 : Nat), .int .u32 (a3 : Nat)] 59)).alloc (.cells #[.bool false, .slice none 0 0] 32)).alloc (.cells #[.bool leaf, .slice none 0 0] 32)) w.heap.size leaf #[.bool leaf, .slice A zs.length c1] #[.string a0, .string a1, .int .u32 (a2 : Nat), .int .u32 (a3 : Nat)] none 0 0 []) := ⟨r9, r0, r1, r2, r3, Own.nil _ _ _ _ _, rfl, rfl⟩
  have HS := Lib.hid hs1
  obtain ⟨es, hes⟩ : ∃ es, es = rpE (a0, a1, a2, a3) zs := ⟨_, rfl⟩
  rw [← hes]
  have HES := Lib.hid hes
  clear hs1 r0 r1 r2 r3 r9 hes
  go_enter Try.func29, Try.ntmps29
  go_wp2
  generalize ((((w.alloc (.cells #[.bool leaf, .slice A zs.length c1] 32)).alloc (.cells #[.string a0, .string a1, .int .u32 (a2 : Nat), .int .u32 (a3 : Nat)] 59)).alloc (.cells #[.bool false, .slice none 0 0] 32)).alloc (.cells #[.bool leaf, .slice none 0 0] 32)) = U0 at *
  generalize hgw : w.heap.size = g at *
  have HGW := Lib.hid hgw
  clear hgw
  go_loopw [15, 6] (fun i dn wr => ∃ (k : Nat) (B : Option Addr) (n cb : Nat), k ≤ zs.length ∧ i = .int .i64 (k : Nat) ∧ dn = .bool (rpK (a0, a1, a2, a3) zs k).2 ∧ (n ≤ k + 1 ∧ ((rpK (a0, a1, a2, a3) zs k).2 = false → n ≤ k)) ∧ Hid (PW w wr g leaf #[.bool leaf, .slice A zs.length c1] #[.string a0, .string a1, .int .u32 (a2 : Nat), .int .u32 (a3 : Nat)] B n cb (rpK (a0, a1, a2, a3) zs k).1)) (fun i _ _ => zs.length - (intOf i).toNat)
  case atStart => exact ⟨0, none, 0, 0, by omega, rfl, rfl, ⟨by omega, fun _ => by omega⟩, HJ.out⟩
  case round =>
    obtain ⟨k, B, n, cb, hk, rfl, rfl, ⟨hnk, hnf⟩, HR⟩ := hrel
    have gm : wr.cell? ⟨g + 1 + 1 + 1, 1, none⟩ = some (.slice B n cb) := row_cell HR.out.m 1 _ rfl
    have gc : wr.cell? ⟨g + 1, 0, none⟩ = some (.string a0) := row_cell HR.out.b 0 _ rfl
    have gcB : wr.cell? ⟨g + 1, 1, none⟩ = some (.string a1) := row_cell HR.out.b 1 _ rfl
    have gcC : wr.cell? ⟨g + 1, 2, none⟩ = some (.int .u32 (a2 : Nat)) := row_cell HR.out.b 2 _ rfl
    have gcD : wr.cell? ⟨g + 1, 3, none⟩ = some (.int .u32 (a3 : Nat)) := row_cell HR.out.b 3 _ rfl
    by_cases hlt : k < zs.length
    · rcases HS.out with h0 | ⟨a, off, rfl, hcell⟩
      · subst h0; simp at hlt
      have hget := List.getElem?_eq_getElem hlt
      have hst := rpK_step (c := (a0, a1, a2, a3)) hget
      generalize zs[k] = x at *
      obtain ⟨e0, e1, e2, e3⟩ := x
      have b0 := HR.out.gr.cells (hcell k _ hget 0 _ rfl)
      have b1 := HR.out.gr.cells (hcell k _ hget 1 _ rfl)
      have b2 := HR.out.gr.cells (hcell k _ hget 2 _ rfl)
      have b3 := HR.out.gr.cells (hcell k _ hget 3 _ rfl)
      simp only [Nat.add_zero] at b0
      clear hcell hget
      have ht := bl_total e0.toList a0.toList
      cases hd : (rpK (a0, a1, a2, a3) zs k).2 with
      | true =>
        have hK : Hid (rpK (a0, a1, a2, a3) zs (k + 1) = ((rpK (a0, a1, a2, a3) zs k).1 ++ [(e0, e1, e2, e3)], true)) := by
          unfold Hid; rw [hst]; unfold rpS; rw [if_neg (fun h => by rw [hd] at h; cases h.1), hd]
        clear hst ht hd hnf
        have HRA : Hid (PW w ((wr.alloc (.cells #[.string e0, .string e1, .int .u32 (e2 : Nat), .int .u32 (e3 : Nat)] 59)).alloc (.cells #[.string e0, .string e1, .int .u32 (e2 : Nat), .int .u32 (e3 : Nat)] 59)) g leaf #[.bool leaf, .slice (some ⟨a, off, none⟩) zs.length c1] #[.string a0, .string a1, .int .u32 (a2 : Nat), .int .u32 (a3 : Nat)] B n cb (rpK (a0, a1, a2, a3) zs k).1) := HR.out.step (((Gr.refl wr).alloc _).alloc _)
        have hrow0 := heap_alloc_last (wr.alloc (.cells #[.string e0, .string e1, .int .u32 (e2 : Nat), .int .u32 (e3 : Nat)] 59)) (.cells #[.string e0, .string e1, .int .u32 (e2 : Nat), .int .u32 (e3 : Nat)] 59)
        rw [alloc_size] at hrow0
        have HNWp := Lib.hid (hrow0)
        have HOWp : Hid (((wr.alloc (.cells #[.string e0, .string e1, .int .u32 (e2 : Nat), .int .u32 (e3 : Nat)] 59)).alloc (.cells #[.string e0, .string e1, .int .u32 (e2 : Nat), .int .u32 (e3 : Nat)] 59)).ownsRow (g + 4) 59 4 (.slice B n cb) (n) (((rpK (a0, a1, a2, a3) zs k).1).flatMap ceCell)) := by
          have h := HRA.out.own
          unfold Own at h
          rw [HRA.out.ln] at h
          exact h
        have hg4 : g + 4 ≤ ((wr.alloc (.cells #[.string e0, .string e1, .int .u32 (e2 : Nat), .int .u32 (e3 : Nat)] 59)).alloc (.cells #[.string e0, .string e1, .int .u32 (e2 : Nat), .int .u32 (e3 : Nat)] 59)).heap.size := by have := lt_of_row HRA.out.m; omega
        have HG4p := Lib.hid hg4
        clear hg4
        clear hrow0
        have gmA : (wr.alloc (.cells #[.string e0, .string e1, .int .u32 (e2 : Nat), .int .u32 (e3 : Nat)] 59)).cell? ⟨g + 1 + 1 + 1, 1, none⟩ = some (.slice B n cb) := ((Gr.refl wr).alloc _).cells gm
        have gc0 : (wr.alloc (.cells #[.string e0, .string e1, .int .u32 (e2 : Nat), .int .u32 (e3 : Nat)] 59)).cell? ⟨g + 1, 0, none⟩ = some (.string a0) := ((Gr.refl wr).alloc _).cells gc
        go_wp2_with (first | (at_builtin; refine wpList_append_lies _ rfl _ _ 22 rfl (g + 4) 59 ii _ 4 40 Try.underlying22 hii hz0 hz1 hz2 rfl (by omega) (.slice B n cb) (n) (((rpK (a0, a1, a2, a3) zs k).1).flatMap ceCell) rfl HOWp.out ⟨wr.heap.size + 1, 0, none⟩ 1 1 [.string e0, .string e1, .int .u32 (e2 : Nat), .int .u32 (e3 : Nat)] rfl rfl (World.news_of_block (cs := #[.string e0, .string e1, .int .u32 (e2 : Nat), .int .u32 (e3 : Nat)]) HNWp.out) (fun u hu => by simp at hu; rcases hu with rfl | rfl | rfl | rfl <;> rfl) (by omega) (by unfold maxLen; omega) (by omega) HG4p.out _ rfl ?_; intro ggp ccp v5p hown hgrow hat2 hlt5; have HO5p : Hid (Own v5p (g + 4) 59 4 ceCell (some ⟨ggp, 0, none⟩) ccp (((rpK (a0, a1, a2, a3) zs k).1) ++ [(e0, e1, e2, e3)])) := Own.push (e0, e1, e2, e3) (by rw [HRA.out.ln]; exact hown); have HJ5p : Hid (PW w (v5p.setCell ⟨g + 1 + 1 + 1, 1, none⟩ (.slice (some ⟨ggp, 0, none⟩) (n + 1) ccp)) g leaf #[.bool leaf, .slice (some ⟨a, off, none⟩) zs.length c1] #[.string a0, .string a1, .int .u32 (a2 : Nat), .int .u32 (a3 : Nat)] (some ⟨ggp, 0, none⟩) (n + 1) ccp (((rpK (a0, a1, a2, a3) zs k).1) ++ [(e0, e1, e2, e3)])) := HRA.out.push hgrow HO5p.out (by rw [List.length_append, HRA.out.ln]; rfl); have hblk := (hgrow.block _ (lt_of_row HRA.out.m) (fun he => (by have h3 := (HRA.out.own.lt (by rw [← ownOf_eq B (n) cb]; exact he.symm)).2; omega))).trans HRA.out.m; have c1m := row_cell hblk 1 _ rfl; have f1m := frozen_of_row _ _ 1 _ _ hblk; clear hown hgrow hat2 hblk))
        go_roundw
        case rel => exact ⟨k + 1, some ⟨ggp, 0, none⟩, n + 1, ccp, by omega, by go_num, by rw [hK.out], ⟨by omega, fun h => by rw [hK.out] at h; cases h⟩, by rw [hK.out]; exact HJ5p.out⟩
        case measure => (simp [intOf]; try omega)
      | false =>
        have hnk2 := hnf hd
        clear hnf
        cases hb : Op.bytesLess e0.toList a0.toList with
        | true =>
          have hK : Hid (rpK (a0, a1, a2, a3) zs (k + 1) = ((rpK (a0, a1, a2, a3) zs k).1 ++ [(e0, e1, e2, e3)], false)) := by
            unfold Hid; rw [hst]; unfold rpS; rw [if_neg (fun h => by have h2 := h.2; simp only at h2; rw [hb] at h2; cases h2), hd]
          rw [hb] at ht
          simp only [Bool.not_true] at ht
          clear hst hd
          have HRA : Hid (PW w ((wr.alloc (.cells #[.string e0, .string e1, .int .u32 (e2 : Nat), .int .u32 (e3 : Nat)] 59)).alloc (.cells #[.string e0, .string e1, .int .u32 (e2 : Nat), .int .u32 (e3 : Nat)] 59)) g leaf #[.bool leaf, .slice (some ⟨a, off, none⟩) zs.length c1] #[.string a0, .string a1, .int .u32 (a2 : Nat), .int .u32 (a3 : Nat)] B n cb (rpK (a0, a1, a2, a3) zs k).1) := HR.out.step (((Gr.refl wr).alloc _).alloc _)
          have hrow0 := heap_alloc_last (wr.alloc (.cells #[.string e0, .string e1, .int .u32 (e2 : Nat), .int .u32 (e3 : Nat)] 59)) (.cells #[.string e0, .string e1, .int .u32 (e2 : Nat), .int .u32 (e3 : Nat)] 59)
          rw [alloc_size] at hrow0
          have HNWq := Lib.hid (hrow0)
          have HOWq : Hid (((wr.alloc (.cells #[.string e0, .string e1, .int .u32 (e2 : Nat), .int .u32 (e3 : Nat)] 59)).alloc (.cells #[.string e0, .string e1, .int .u32 (e2 : Nat), .int .u32 (e3 : Nat)] 59)).ownsRow (g + 4) 59 4 (.slice B n cb) (n) (((rpK (a0, a1, a2, a3) zs k).1).flatMap ceCell)) := by
            have h := HRA.out.own
            unfold Own at h
            rw [HRA.out.ln] at h
            exact h
          have hg4 : g + 4 ≤ ((wr.alloc (.cells #[.string e0, .string e1, .int .u32 (e2 : Nat), .int .u32 (e3 : Nat)] 59)).alloc (.cells #[.string e0, .string e1, .int .u32 (e2 : Nat), .int .u32 (e3 : Nat)] 59)).heap.size := by have := lt_of_row HRA.out.m; omega
          have HG4q := Lib.hid hg4
          clear hg4
          clear hrow0
          have gmA : (wr.alloc (.cells #[.string e0, .string e1, .int .u32 (e2 : Nat), .int .u32 (e3 : Nat)] 59)).cell? ⟨g + 1 + 1 + 1, 1, none⟩ = some (.slice B n cb) := ((Gr.refl wr).alloc _).cells gm
          have gc0 : (wr.alloc (.cells #[.string e0, .string e1, .int .u32 (e2 : Nat), .int .u32 (e3 : Nat)] 59)).cell? ⟨g + 1, 0, none⟩ = some (.string a0) := ((Gr.refl wr).alloc _).cells gc
          go_wp2_with (first | (at_builtin; refine wpList_append_lies _ rfl _ _ 22 rfl (g + 4) 59 ii _ 4 40 Try.underlying22 hii hz0 hz1 hz2 rfl (by omega) (.slice B n cb) (n) (((rpK (a0, a1, a2, a3) zs k).1).flatMap ceCell) rfl HOWq.out ⟨wr.heap.size + 1, 0, none⟩ 1 1 [.string e0, .string e1, .int .u32 (e2 : Nat), .int .u32 (e3 : Nat)] rfl rfl (World.news_of_block (cs := #[.string e0, .string e1, .int .u32 (e2 : Nat), .int .u32 (e3 : Nat)]) HNWq.out) (fun u hu => by simp at hu; rcases hu with rfl | rfl | rfl | rfl <;> rfl) (by omega) (by unfold maxLen; omega) (by omega) HG4q.out _ rfl ?_; intro ggq ccq v5q hown hgrow hat2 hlt5; have HO5q : Hid (Own v5q (g + 4) 59 4 ceCell (some ⟨ggq, 0, none⟩) ccq (((rpK (a0, a1, a2, a3) zs k).1) ++ [(e0, e1, e2, e3)])) := Own.push (e0, e1, e2, e3) (by rw [HRA.out.ln]; exact hown); have HJ5q : Hid (PW w (v5q.setCell ⟨g + 1 + 1 + 1, 1, none⟩ (.slice (some ⟨ggq, 0, none⟩) (n + 1) ccq)) g leaf #[.bool leaf, .slice (some ⟨a, off, none⟩) zs.length c1] #[.string a0, .string a1, .int .u32 (a2 : Nat), .int .u32 (a3 : Nat)] (some ⟨ggq, 0, none⟩) (n + 1) ccq (((rpK (a0, a1, a2, a3) zs k).1) ++ [(e0, e1, e2, e3)])) := HRA.out.push hgrow HO5q.out (by rw [List.length_append, HRA.out.ln]; rfl); have hblk := (hgrow.block _ (lt_of_row HRA.out.m) (fun he => (by have h3 := (HRA.out.own.lt (by rw [← ownOf_eq B (n) cb]; exact he.symm)).2; omega))).trans HRA.out.m; have c1m := row_cell hblk 1 _ rfl; have f1m := frozen_of_row _ _ 1 _ _ hblk; clear hown hgrow hat2 hblk))
          go_roundw
          case rel => exact ⟨k + 1, some ⟨ggq, 0, none⟩, n + 1, ccq, by omega, by go_num, by rw [hK.out], ⟨by omega, fun _ => by omega⟩, by rw [hK.out]; exact HJ5q.out⟩
          case measure => (simp [intOf]; try omega)
        | false =>
          rw [hb] at ht
          simp only [Bool.not_false] at ht
          cases hq : (a0.toList == e0.toList) with
          | true =>
            have hK : Hid (rpK (a0, a1, a2, a3) zs (k + 1) = ((rpK (a0, a1, a2, a3) zs k).1 ++ [(a0, a1, a2, a3)], true)) := by
              unfold Hid; rw [hst]; unfold rpS; rw [if_pos ⟨hd, hb⟩, if_pos hq]
            clear hst hd
            have HRA : Hid (PW w ((wr.alloc (.cells #[.string e0, .string e1, .int .u32 (e2 : Nat), .int .u32 (e3 : Nat)] 59)).alloc (.cells #[.string a0, .string a1, .int .u32 (a2 : Nat), .int .u32 (a3 : Nat)] 59)) g leaf #[.bool leaf, .slice (some ⟨a, off, none⟩) zs.length c1] #[.string a0, .string a1, .int .u32 (a2 : Nat), .int .u32 (a3 : Nat)] B n cb (rpK (a0, a1, a2, a3) zs k).1) := HR.out.step (((Gr.refl wr).alloc _).alloc _)
            have hxr := ((Gr.refl (wr.alloc (.cells #[.string e0, .string e1, .int .u32 (e2 : Nat), .int .u32 (e3 : Nat)] 59))).alloc (.cells #[.string a0, .string a1, .int .u32 (a2 : Nat), .int .u32 (a3 : Nat)] 59)).block (k := wr.heap.size) (by rw [alloc_size]; omega) |>.trans (heap_alloc_last wr (.cells #[.string e0, .string e1, .int .u32 (e2 : Nat), .int .u32 (e3 : Nat)] 59))
            have HXR := Lib.hid hxr
            clear hxr
            have hrow0 := heap_alloc_last (wr.alloc (.cells #[.string e0, .string e1, .int .u32 (e2 : Nat), .int .u32 (e3 : Nat)] 59)) (.cells #[.string a0, .string a1, .int .u32 (a2 : Nat), .int .u32 (a3 : Nat)] 59)
            rw [alloc_size] at hrow0
            have HNWr := Lib.hid (hrow0)
            have HOWr : Hid (((wr.alloc (.cells #[.string e0, .string e1, .int .u32 (e2 : Nat), .int .u32 (e3 : Nat)] 59)).alloc (.cells #[.string a0, .string a1, .int .u32 (a2 : Nat), .int .u32 (a3 : Nat)] 59)).ownsRow (g + 4) 59 4 (.slice B n cb) (n) (((rpK (a0, a1, a2, a3) zs k).1).flatMap ceCell)) := by
              have h := HRA.out.own
              unfold Own at h
              rw [HRA.out.ln] at h
              exact h
            have hg4 : g + 4 ≤ ((wr.alloc (.cells #[.string e0, .string e1, .int .u32 (e2 : Nat), .int .u32 (e3 : Nat)] 59)).alloc (.cells #[.string a0, .string a1, .int .u32 (a2 : Nat), .int .u32 (a3 : Nat)] 59)).heap.size := by have := lt_of_row HRA.out.m; omega
            have HG4r := Lib.hid hg4
            clear hg4
            clear hrow0
            have gmA : (wr.alloc (.cells #[.string e0, .string e1, .int .u32 (e2 : Nat), .int .u32 (e3 : Nat)] 59)).cell? ⟨g + 1 + 1 + 1, 1, none⟩ = some (.slice B n cb) := ((Gr.refl wr).alloc _).cells gm
            have gc0 : (wr.alloc (.cells #[.string e0, .string e1, .int .u32 (e2 : Nat), .int .u32 (e3 : Nat)] 59)).cell? ⟨g + 1, 0, none⟩ = some (.string a0) := ((Gr.refl wr).alloc _).cells gc
            have gc1 : (wr.alloc (.cells #[.string e0, .string e1, .int .u32 (e2 : Nat), .int .u32 (e3 : Nat)] 59)).cell? ⟨g + 1, 1, none⟩ = some (.string a1) := ((Gr.refl wr).alloc _).cells gcB
            have gc2 : (wr.alloc (.cells #[.string e0, .string e1, .int .u32 (e2 : Nat), .int .u32 (e3 : Nat)] 59)).cell? ⟨g + 1, 2, none⟩ = some (.int .u32 (a2 : Nat)) := ((Gr.refl wr).alloc _).cells gcC
            have gc3 : (wr.alloc (.cells #[.string e0, .string e1, .int .u32 (e2 : Nat), .int .u32 (e3 : Nat)] 59)).cell? ⟨g + 1, 3, none⟩ = some (.int .u32 (a3 : Nat)) := ((Gr.refl wr).alloc _).cells gcD
            go_wp2_with (first | (at_builtin; refine wpList_append_lies _ rfl _ _ 22 rfl (g + 4) 59 ii _ 4 40 Try.underlying22 hii hz0 hz1 hz2 rfl (by omega) (.slice B n cb) (n) (((rpK (a0, a1, a2, a3) zs k).1).flatMap ceCell) rfl HOWr.out ⟨wr.heap.size + 1, 0, none⟩ 1 1 [.string a0, .string a1, .int .u32 (a2 : Nat), .int .u32 (a3 : Nat)] rfl rfl (World.news_of_block (cs := #[.string a0, .string a1, .int .u32 (a2 : Nat), .int .u32 (a3 : Nat)]) HNWr.out) (fun u hu => by simp at hu; rcases hu with rfl | rfl | rfl | rfl <;> rfl) (by omega) (by unfold maxLen; omega) (by omega) HG4r.out _ rfl ?_; intro ggr ccr v5r hown hgrow hat2 hlt5; have HO5r : Hid (Own v5r (g + 4) 59 4 ceCell (some ⟨ggr, 0, none⟩) ccr (((rpK (a0, a1, a2, a3) zs k).1) ++ [(a0, a1, a2, a3)])) := Own.push (a0, a1, a2, a3) (by rw [HRA.out.ln]; exact hown); have HJ5r : Hid (PW w (v5r.setCell ⟨g + 1 + 1 + 1, 1, none⟩ (.slice (some ⟨ggr, 0, none⟩) (n + 1) ccr)) g leaf #[.bool leaf, .slice (some ⟨a, off, none⟩) zs.length c1] #[.string a0, .string a1, .int .u32 (a2 : Nat), .int .u32 (a3 : Nat)] (some ⟨ggr, 0, none⟩) (n + 1) ccr (((rpK (a0, a1, a2, a3) zs k).1) ++ [(a0, a1, a2, a3)])) := HRA.out.push hgrow HO5r.out (by rw [List.length_append, HRA.out.ln]; rfl); have hblk := (hgrow.block _ (lt_of_row HRA.out.m) (fun he => (by have h3 := (HRA.out.own.lt (by rw [← ownOf_eq B (n) cb]; exact he.symm)).2; omega))).trans HRA.out.m; have c1m := row_cell hblk 1 _ rfl; have f1m := frozen_of_row _ _ 1 _ _ hblk; have hxb := (hgrow.block wr.heap.size (by simp only [alloc_size]; omega) (fun he => (by have h3 := (HR.out.own.lt (by rw [← ownOf_eq B n cb]; exact he.symm)).1; omega))).trans HXR.out; have HXB := Lib.hid ((heap_setCell_other v5r ⟨g + 1 + 1 + 1, 1, none⟩ wr.heap.size (.slice (some ⟨ggr, 0, none⟩) (n + 1) ccr) (by show wr.heap.size ≠ g + 1 + 1 + 1; have h4 := lt_of_row HR.out.m; omega)).trans hxb); have x0 := row_cell HXB.out 0 _ rfl; have cc0 := row_cell HJ5r.out.b 0 _ rfl; clear hxb; clear hown hgrow hat2 hblk))
            go_roundw
            case rel => exact ⟨k + 1, some ⟨ggr, 0, none⟩, n + 1, ccr, by omega, by go_num, by rw [hK.out], ⟨by omega, fun h => by rw [hK.out] at h; cases h⟩, by rw [hK.out]; exact HJ5r.out⟩
            case measure => (simp [intOf]; try omega)
          | false =>
            have hK : Hid (rpK (a0, a1, a2, a3) zs (k + 1) = (((rpK (a0, a1, a2, a3) zs k).1 ++ [(a0, a1, a2, a3)]) ++ [(e0, e1, e2, e3)], true)) := by
              unfold Hid; rw [hst]; unfold rpS; rw [if_pos ⟨hd, hb⟩, if_neg (by rw [hq]; decide)]
            rw [hq, Bool.or_false] at ht
            clear hst hd
            have HRA : Hid (PW w ((wr.alloc (.cells #[.string e0, .string e1, .int .u32 (e2 : Nat), .int .u32 (e3 : Nat)] 59)).alloc (.cells #[.string a0, .string a1, .int .u32 (a2 : Nat), .int .u32 (a3 : Nat)] 59)) g leaf #[.bool leaf, .slice (some ⟨a, off, none⟩) zs.length c1] #[.string a0, .string a1, .int .u32 (a2 : Nat), .int .u32 (a3 : Nat)] B n cb (rpK (a0, a1, a2, a3) zs k).1) := HR.out.step (((Gr.refl wr).alloc _).alloc _)
            have hxr := ((Gr.refl (wr.alloc (.cells #[.string e0, .string e1, .int .u32 (e2 : Nat), .int .u32 (e3 : Nat)] 59))).alloc (.cells #[.string a0, .string a1, .int .u32 (a2 : Nat), .int .u32 (a3 : Nat)] 59)).block (k := wr.heap.size) (by rw [alloc_size]; omega) |>.trans (heap_alloc_last wr (.cells #[.string e0, .string e1, .int .u32 (e2 : Nat), .int .u32 (e3 : Nat)] 59))
            have HXR := Lib.hid hxr
            clear hxr
            have hrow0 := heap_alloc_last (wr.alloc (.cells #[.string e0, .string e1, .int .u32 (e2 : Nat), .int .u32 (e3 : Nat)] 59)) (.cells #[.string a0, .string a1, .int .u32 (a2 : Nat), .int .u32 (a3 : Nat)] 59)
            rw [alloc_size] at hrow0
            have HNWs := Lib.hid (hrow0)
            have HOWs : Hid (((wr.alloc (.cells #[.string e0, .string e1, .int .u32 (e2 : Nat), .int .u32 (e3 : Nat)] 59)).alloc (.cells #[.string a0, .string a1, .int .u32 (a2 : Nat), .int .u32 (a3 : Nat)] 59)).ownsRow (g + 4) 59 4 (.slice B n cb) (n) (((rpK (a0, a1, a2, a3) zs k).1).flatMap ceCell)) := by
              have h := HRA.out.own
              unfold Own at h
              rw [HRA.out.ln] at h
              exact h
            have hg4 : g + 4 ≤ ((wr.alloc (.cells #[.string e0, .string e1, .int .u32 (e2 : Nat), .int .u32 (e3 : Nat)] 59)).alloc (.cells #[.string a0, .string a1, .int .u32 (a2 : Nat), .int .u32 (a3 : Nat)] 59)).heap.size := by have := lt_of_row HRA.out.m; omega
            have HG4s := Lib.hid hg4
            clear hg4
            clear hrow0
            have gmA : (wr.alloc (.cells #[.string e0, .string e1, .int .u32 (e2 : Nat), .int .u32 (e3 : Nat)] 59)).cell? ⟨g + 1 + 1 + 1, 1, none⟩ = some (.slice B n cb) := ((Gr.refl wr).alloc _).cells gm
            have gc0 : (wr.alloc (.cells #[.string e0, .string e1, .int .u32 (e2 : Nat), .int .u32 (e3 : Nat)] 59)).cell? ⟨g + 1, 0, none⟩ = some (.string a0) := ((Gr.refl wr).alloc _).cells gc
            have gc1 : (wr.alloc (.cells #[.string e0, .string e1, .int .u32 (e2 : Nat), .int .u32 (e3 : Nat)] 59)).cell? ⟨g + 1, 1, none⟩ = some (.string a1) := ((Gr.refl wr).alloc _).cells gcB
            have gc2 : (wr.alloc (.cells #[.string e0, .string e1, .int .u32 (e2 : Nat), .int .u32 (e3 : Nat)] 59)).cell? ⟨g + 1, 2, none⟩ = some (.int .u32 (a2 : Nat)) := ((Gr.refl wr).alloc _).cells gcC
            have gc3 : (wr.alloc (.cells #[.string e0, .string e1, .int .u32 (e2 : Nat), .int .u32 (e3 : Nat)] 59)).cell? ⟨g + 1, 3, none⟩ = some (.int .u32 (a3 : Nat)) := ((Gr.refl wr).alloc _).cells gcD
            go_wp2_with (first | (at_builtin; refine wpList_append_lies _ rfl _ _ 22 rfl (g + 4) 59 ii _ 4 40 Try.underlying22 hii hz0 hz1 hz2 rfl (by omega) (.slice B n cb) (n) (((rpK (a0, a1, a2, a3) zs k).1).flatMap ceCell) rfl HOWs.out ⟨wr.heap.size + 1, 0, none⟩ 1 1 [.string a0, .string a1, .int .u32 (a2 : Nat), .int .u32 (a3 : Nat)] rfl rfl (World.news_of_block (cs := #[.string a0, .string a1, .int .u32 (a2 : Nat), .int .u32 (a3 : Nat)]) HNWs.out) (fun u hu => by simp at hu; rcases hu with rfl | rfl | rfl | rfl <;> rfl) (by omega) (by unfold maxLen; omega) (by omega) HG4s.out _ rfl ?_; intro ggs ccs v5s hown hgrow hat2 hlt5; have HO5s : Hid (Own v5s (g + 4) 59 4 ceCell (some ⟨ggs, 0, none⟩) ccs (((rpK (a0, a1, a2, a3) zs k).1) ++ [(a0, a1, a2, a3)])) := Own.push (a0, a1, a2, a3) (by rw [HRA.out.ln]; exact hown); have HJ5s : Hid (PW w (v5s.setCell ⟨g + 1 + 1 + 1, 1, none⟩ (.slice (some ⟨ggs, 0, none⟩) (n + 1) ccs)) g leaf #[.bool leaf, .slice (some ⟨a, off, none⟩) zs.length c1] #[.string a0, .string a1, .int .u32 (a2 : Nat), .int .u32 (a3 : Nat)] (some ⟨ggs, 0, none⟩) (n + 1) ccs (((rpK (a0, a1, a2, a3) zs k).1) ++ [(a0, a1, a2, a3)])) := HRA.out.push hgrow HO5s.out (by rw [List.length_append, HRA.out.ln]; rfl); have hblk := (hgrow.block _ (lt_of_row HRA.out.m) (fun he => (by have h3 := (HRA.out.own.lt (by rw [← ownOf_eq B (n) cb]; exact he.symm)).2; omega))).trans HRA.out.m; have c1m := row_cell hblk 1 _ rfl; have f1m := frozen_of_row _ _ 1 _ _ hblk; have hxb := (hgrow.block wr.heap.size (by simp only [alloc_size]; omega) (fun he => (by have h3 := (HR.out.own.lt (by rw [← ownOf_eq B n cb]; exact he.symm)).1; omega))).trans HXR.out; have HXB := Lib.hid ((heap_setCell_other v5s ⟨g + 1 + 1 + 1, 1, none⟩ wr.heap.size (.slice (some ⟨ggs, 0, none⟩) (n + 1) ccs) (by show wr.heap.size ≠ g + 1 + 1 + 1; have h4 := lt_of_row HR.out.m; omega)).trans hxb); have x0 := row_cell HXB.out 0 _ rfl; have x1 := row_cell HXB.out 1 _ rfl; have x2 := row_cell HXB.out 2 _ rfl; have x3 := row_cell HXB.out 3 _ rfl; have cc0 := row_cell HJ5s.out.b 0 _ rfl; clear hxb; have HRB : Hid (PW w ((v5s.setCell ⟨g + 1 + 1 + 1, 1, none⟩ (.slice (some ⟨ggs, 0, none⟩) (n + 1) ccs)).alloc (.cells #[.string e0, .string e1, .int .u32 (e2 : Nat), .int .u32 (e3 : Nat)] 59)) g leaf #[.bool leaf, .slice (some ⟨a, off, none⟩) zs.length c1] #[.string a0, .string a1, .int .u32 (a2 : Nat), .int .u32 (a3 : Nat)] (some ⟨ggs, 0, none⟩) (n + 1) ccs ((rpK (a0, a1, a2, a3) zs k).1 ++ [(a0, a1, a2, a3)])) := HJ5s.out.step ((Gr.refl _).alloc _); have hrB := heap_alloc_last (v5s.setCell ⟨g + 1 + 1 + 1, 1, none⟩ (.slice (some ⟨ggs, 0, none⟩) (n + 1) ccs)) (.cells #[.string e0, .string e1, .int .u32 (e2 : Nat), .int .u32 (e3 : Nat)] 59); rw [setCell_size] at hrB; have HNWu := Lib.hid hrB; have hoB := HRB.out.own; unfold Own at hoB; rw [HRB.out.ln] at hoB; have HOWu := Lib.hid hoB; have HG4u : Hid (g + 4 ≤ ((v5s.setCell ⟨g + 1 + 1 + 1, 1, none⟩ (.slice (some ⟨ggs, 0, none⟩) (n + 1) ccs)).alloc (.cells #[.string e0, .string e1, .int .u32 (e2 : Nat), .int .u32 (e3 : Nat)] 59)).heap.size) := (by have h6 := lt_of_row HRB.out.m; unfold Hid; omega); clear hrB hoB; clear hown hgrow hat2 hblk) | (at_builtin; refine wpList_append_lies _ rfl _ _ 22 rfl (g + 4) 59 ii _ 4 40 Try.underlying22 hii hz0 hz1 hz2 rfl (by omega) (.slice (some ⟨ggs, 0, none⟩) (n + 1) ccs) ((n + 1)) ((((rpK (a0, a1, a2, a3) zs k).1 ++ [(a0, a1, a2, a3)])).flatMap ceCell) rfl HOWu.out ⟨v5s.heap.size, 0, none⟩ 1 1 [.string e0, .string e1, .int .u32 (e2 : Nat), .int .u32 (e3 : Nat)] rfl rfl (World.news_of_block (cs := #[.string e0, .string e1, .int .u32 (e2 : Nat), .int .u32 (e3 : Nat)]) HNWu.out) (fun u hu => by simp at hu; rcases hu with rfl | rfl | rfl | rfl <;> rfl) (by omega) (by unfold maxLen; omega) (by omega) HG4u.out _ rfl ?_; intro ggu ccu v5u hown hgrow hat2 hlt5; have HO5u : Hid (Own v5u (g + 4) 59 4 ceCell (some ⟨ggu, 0, none⟩) ccu ((((rpK (a0, a1, a2, a3) zs k).1 ++ [(a0, a1, a2, a3)])) ++ [(e0, e1, e2, e3)])) := Own.push (e0, e1, e2, e3) (by rw [HRB.out.ln]; exact hown); have HJ5u : Hid (PW w (v5u.setCell ⟨g + 1 + 1 + 1, 1, none⟩ (.slice (some ⟨ggu, 0, none⟩) ((n + 1) + 1) ccu)) g leaf #[.bool leaf, .slice (some ⟨a, off, none⟩) zs.length c1] #[.string a0, .string a1, .int .u32 (a2 : Nat), .int .u32 (a3 : Nat)] (some ⟨ggu, 0, none⟩) ((n + 1) + 1) ccu ((((rpK (a0, a1, a2, a3) zs k).1 ++ [(a0, a1, a2, a3)])) ++ [(e0, e1, e2, e3)])) := HRB.out.push hgrow HO5u.out (by rw [List.length_append, HRB.out.ln]; rfl); have hblk := (hgrow.block _ (lt_of_row HRB.out.m) (fun he => (by have h3 := (HRB.out.own.lt (by rw [← ownOf_eq (some ⟨ggs, 0, none⟩) ((n + 1)) ccs]; exact he.symm)).2; omega))).trans HRB.out.m; have c1m := row_cell hblk 1 _ rfl; have f1m := frozen_of_row _ _ 1 _ _ hblk; clear hown hgrow hat2 hblk))
            go_roundw
            case rel => exact ⟨k + 1, some ⟨ggu, 0, none⟩, n + 1 + 1, ccu, by omega, by go_num, by rw [hK.out], ⟨by omega, fun h => by rw [hK.out] at h; cases h⟩, by rw [hK.out]; exact HJ5u.out⟩
            case measure => (simp [intOf]; try omega)
    · obtain rfl : k = zs.length := by omega
      have hgw := HGW.out
      have gm0 := row_cell HR.out.m 0 _ rfl
      have z0 := row_cell HR.out.r 0 _ rfl
      have z1 := row_cell HR.out.r 1 _ rfl
      have fz0 := frozen_of_row _ _ 0 _ _ HR.out.r
      have fz1 := frozen_of_row _ _ 1 _ _ HR.out.r
      have hes := HES.out
      unfold rpE at hes
      cases hd : (rpK (a0, a1, a2, a3) zs zs.length).2 with
      | true =>
        rw [if_pos hd] at hes
        subst hes
        have HLN := Lib.hid HR.out.ln
        clear HES hnf
        go_wp2
        refine bodyPost_ret (results_cell_row rfl _ _ (g + 1 + 1) _ #[.bool leaf, .slice B n cb] (0, 0) (.struct _) rfl (set2_same (.bool leaf) (.slice B n cb) HR.out.r) Try.underlying32 rfl (by kernel_rfl)) rfl ⟨B, n, cb, rfl, ⟨B, cb, by rw [HLN.out], (Own.ch (w' := _) HR.out.own (((Ch.refl (g + 1 + 1) _).setCell 0 (.bool leaf)).setCell 1 (.slice B n cb)) (fun e => by have h7 := (Own.lt HR.out.own e).2; omega)).slice ceCell_len, (Own.cap_le HR.out.own).1, (Own.cap_le HR.out.own).2⟩, set2_gr (g + 1 + 1) (.bool leaf) (.slice B n cb) HR.out.gr (by omega)⟩
      | false =>
        rw [if_neg (by rw [hd]; decide)] at hes
        subst hes
        clear HES hnf
        have HRA : Hid (PW w (wr.alloc (.cells #[.string a0, .string a1, .int .u32 (a2 : Nat), .int .u32 (a3 : Nat)] 59)) g leaf #[.bool leaf, .slice A zs.length c1] #[.string a0, .string a1, .int .u32 (a2 : Nat), .int .u32 (a3 : Nat)] B n cb (rpK (a0, a1, a2, a3) zs zs.length).1) := HR.out.step ((Gr.refl wr).alloc _)
        have hrow0 := heap_alloc_last wr (.cells #[.string a0, .string a1, .int .u32 (a2 : Nat), .int .u32 (a3 : Nat)] 59)
        have HNWt := Lib.hid (hrow0)
        have HOWt : Hid ((wr.alloc (.cells #[.string a0, .string a1, .int .u32 (a2 : Nat), .int .u32 (a3 : Nat)] 59)).ownsRow (g + 4) 59 4 (.slice B n cb) (n) (((rpK (a0, a1, a2, a3) zs zs.length).1).flatMap ceCell)) := by
          have h := HRA.out.own
          unfold Own at h
          rw [HRA.out.ln] at h
          exact h
        have hg4 : g + 4 ≤ (wr.alloc (.cells #[.string a0, .string a1, .int .u32 (a2 : Nat), .int .u32 (a3 : Nat)] 59)).heap.size := by have := lt_of_row HRA.out.m; omega
        have HG4t := Lib.hid hg4
        clear hg4
        clear hrow0
        go_wp2_with (first | (at_builtin; refine wpList_append_lies _ rfl _ _ 22 rfl (g + 4) 59 ii _ 4 40 Try.underlying22 hii hz0 hz1 hz2 rfl (by omega) (.slice B n cb) (n) (((rpK (a0, a1, a2, a3) zs zs.length).1).flatMap ceCell) rfl HOWt.out ⟨wr.heap.size, 0, none⟩ 1 1 [.string a0, .string a1, .int .u32 (a2 : Nat), .int .u32 (a3 : Nat)] rfl rfl (World.news_of_block (cs := #[.string a0, .string a1, .int .u32 (a2 : Nat), .int .u32 (a3 : Nat)]) HNWt.out) (fun u hu => by simp at hu; rcases hu with rfl | rfl | rfl | rfl <;> rfl) (by omega) (by unfold maxLen; omega) (by omega) HG4t.out _ rfl ?_; intro ggt cct v5t hown hgrow hat2 hlt5; have HO5t : Hid (Own v5t (g + 4) 59 4 ceCell (some ⟨ggt, 0, none⟩) cct (((rpK (a0, a1, a2, a3) zs zs.length).1) ++ [(a0, a1, a2, a3)])) := Own.push (a0, a1, a2, a3) (by rw [HRA.out.ln]; exact hown); have HJ5t : Hid (PW w (v5t.setCell ⟨g + 1 + 1 + 1, 1, none⟩ (.slice (some ⟨ggt, 0, none⟩) (n + 1) cct)) g leaf #[.bool leaf, .slice A zs.length c1] #[.string a0, .string a1, .int .u32 (a2 : Nat), .int .u32 (a3 : Nat)] (some ⟨ggt, 0, none⟩) (n + 1) cct (((rpK (a0, a1, a2, a3) zs zs.length).1) ++ [(a0, a1, a2, a3)])) := HRA.out.push hgrow HO5t.out (by rw [List.length_append, HRA.out.ln]; rfl); have hblk := (hgrow.block _ (lt_of_row HRA.out.m) (fun he => (by have h3 := (HRA.out.own.lt (by rw [← ownOf_eq B (n) cb]; exact he.symm)).2; omega))).trans HRA.out.m; have c1m := row_cell hblk 1 _ rfl; have f1m := frozen_of_row _ _ 1 _ _ hblk; have m0 := row_cell HJ5t.out.m 0 _ rfl; have m1 := row_cell HJ5t.out.m 1 _ rfl; have y0 := row_cell HJ5t.out.r 0 _ rfl; have y1 := row_cell HJ5t.out.r 1 _ rfl; have fy0 := frozen_of_row _ _ 0 _ _ HJ5t.out.r; have fy1 := frozen_of_row _ _ 1 _ _ HJ5t.out.r; clear hown hgrow hat2 hblk))
        have HLN := Lib.hid HJ5t.out.ln
        refine bodyPost_ret (results_cell_row rfl _ _ (g + 1 + 1) _ #[.bool leaf, .slice (some ⟨ggt, 0, none⟩) (n + 1) cct] (0, 0) (.struct _) rfl (set2_same (.bool leaf) (.slice (some ⟨ggt, 0, none⟩) (n + 1) cct) HJ5t.out.r) Try.underlying32 rfl (by kernel_rfl)) rfl ⟨(some ⟨ggt, 0, none⟩), n + 1, cct, rfl, ⟨(some ⟨ggt, 0, none⟩), cct, by rw [HLN.out], (Own.ch (w' := _) HJ5t.out.own (((Ch.refl (g + 1 + 1) _).setCell 0 (.bool leaf)).setCell 1 (.slice (some ⟨ggt, 0, none⟩) (n + 1) cct)) (fun e => by have h7 := (Own.lt HJ5t.out.own e).2; omega)).slice ceCell_len, (Own.cap_le HJ5t.out.own).1, (Own.cap_le HJ5t.out.own).2⟩, set2_gr (g + 1 + 1) (.bool leaf) (.slice (some ⟨ggt, 0, none⟩) (n + 1) cct) HJ5t.out.gr (by omega)⟩
end Go.Proofs.Ytmpmfgkabjedpaa
