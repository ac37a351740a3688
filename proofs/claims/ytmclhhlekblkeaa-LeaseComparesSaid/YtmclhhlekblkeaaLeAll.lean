/- Layer 23: a table's All: whatever loop is over it (after the kit's page on ranges over a function). -/
import Derived.RangeFuncNested
import Derived.RangeFuncBound
import Derived.RangeFuncCalls
import Derived.RangeFuncLeaves
import Derived.RangeFuncBox
import Derived.Shelf.Abstract
import Derived.Shelf.RegionOpen
import Derived.WalkKit
import Derived.OwnWalkIn
import Derived.TacticsInMore
import Derived.LoopNIn
import Derived.LoopIn
import Derived.Test.YtmclhhlekblkeaaOwn4
namespace Go.Proofs.Ytmclhhlekblkeaa
open Go.RowKit Go.Shelf
set_option linter.unusedVariables false
set_option linter.unusedSimpArgs false
set_option maxRecDepth 100000
set_option maxHeartbeats 2000000
attribute [local go_sem] Oper.semAt_some
abbrev En := ByteArray × Nat × Nat
/-- an entry's cells: the queue, the number, till when -/
def enCell (x : En) : List Value := [.string x.1, .int .u64 (x.2.1 : Nat), .int .u64 (x.2.2 : Nat)]
def enEnc (x : En) : Array Value := #[.agg #[.string x.1, .int .u64 (x.2.1 : Nat)], .int .u64 (x.2.2 : Nat)]
theorem enCell_len (x : En) : (enCell x).length = 3 := rfl
theorem enCell_one (x : En) : ∀ u ∈ enCell x, u.oneCell' = true := by
  intro u hu
  simp [enCell] at hu
  rcases hu with rfl | rfl | rfl <;> rfl
theorem le_all1 (F : Fence) (n : Nat) (h7 : F.fn 59) (hro : F.round = none) (hn : 1 ≤ n) (l Bt cap : Nat) (A : Option Addr) (zs : List En) (hl : zs.length ≤ 4000) (w0 : World) (hs : SliceAt w0 A 3 enCell zs) (J Jx : List En → World → Prop) (W : World) (hJ : AbidesFrom W.heap.size J)
    (hY : ∀ pre x W, J pre W → pre.length < zs.length → YieldAt F (n - 1) Try.prog l (enEnc x) W fun e W' =>
      (e = .returned (.bool true) ∧ J (pre ++ [x]) W' ∧ Below w0.heap.size W W') ∨ (e = .returned (.bool false) ∧ Jx (pre ++ [x]) W'))
    (hg : Gr w0 W) (hB : W.cell? ⟨Bt, 1, none⟩ = some (.slice A zs.length cap)) (h0 : J [] W) :
    CallsIn F n Try.prog 59 #[.func (.yield l) #[] #[], .pointer (some ⟨Bt, 0, none⟩)] W fun e W' => (∃ v, e = .returned v) ∧
      ((∃ ys, ys = zs ∧ J ys W') ∨ (∃ pre, pre <+: zs ∧ Jx pre W')) := by
  refine callsIn_of_wp Try.func59 rfl h7 ?_ hro
  simp only [Try.ntmps59, List.size_toArray, List.length_cons, List.length_nil, Nat.reduceAdd, Nat.reduceSub, Array.replicate_succ, Array.replicate_zero, List.push_toArray, List.append_toArray, List.nil_append, List.cons_append]
  gi_wp2
  gi_loopw [8] (fun i wr => ∃ k : Nat, k ≤ zs.length ∧ i = .int .i64 k ∧ J (zs.take k) wr ∧ Below w0.heap.size W wr)
    (fun i _ => zs.length - (intOf i).toNat)
  case atStart => exact ⟨0, Nat.zero_le _, rfl, by simpa using h0, Below.refl _ _⟩
  case round =>
    obtain ⟨k, hk, rfl, hJs, hnx⟩ := hrel
    by_cases hlt : k < zs.length
    · rcases hs with h1 | ⟨a, off, rfl, hcell⟩
      · subst h1; simp at hlt
      have hget := List.getElem?_eq_getElem hlt
      have htk := List.take_succ_eq_append_getElem hlt
      have hgw : Gr w0 wr := Below.trans hg hnx
      generalize zs[k] = x at *
      have hln : (zs.take k).length < zs.length := by rw [List.length_take]; omega
      obtain ⟨x0, x1, x2⟩ := x
      have a0 := hgw.cells (hcell k _ hget 0 _ rfl)
      have a1 := hgw.cells (hcell k _ hget 1 _ rfl)
      have a2 := hgw.cells (hcell k _ hget 2 _ rfl)
      simp only [Nat.add_zero] at a0
      have hJa := hJ (zs.take k) wr (wr.alloc (.cells #[.string x0, .int .u64 (x1 : Nat), .int .u64 (x2 : Nat)] 89)) none hJs (World.grownBy_alloc wr _ none) (fun r e => by cases e)
      have hsz := hgw.size
      obtain ⟨fn, tmps, assign, body, hy, hR⟩ := hY (zs.take k) (x0, x1, x2) _ hJa hln
      dsimp only [enEnc] at hy
      clear hcell hJ hY hget
      gi_wp2
      refine hR.mono ?_
      rintro e W3 (⟨rfl, hJ3, hk3⟩ | ⟨rfl, hJx3⟩)
      · gi_wp2
        go_roundw
        case rel => exact ⟨k + 1, by omega, by simp, by rw [htk]; exact hJ3, (hnx.alloc hsz _).trans hk3⟩
        case measure => simp [intOf]; omega
      · gi_wp2
        refine bodyPost_ret (results_none rfl _ _ _) rfl ?_
        exact ⟨⟨_, rfl⟩, .inr ⟨_, by rw [← htk]; exact List.take_prefix _ _, hJx3⟩⟩
    · obtain rfl : k = zs.length := by omega
      gi_wp2
      go_end0
      exact ⟨⟨_, rfl⟩, .inl ⟨_, by rw [List.take_length], hJs⟩⟩
/-- the table's All: a block for the table, the function value -/
theorem le_all (F : Fence) (n : Nat) (h6 : F.fn 44) (hro : F.round = none) (c v : Value) (w : World) :
    CallsIn F n Try.prog 44 #[.agg #[c, v]] w fun e w' => e = .returned (.func (.func 59) #[] #[.pointer (some ⟨w.heap.size, 0, none⟩)]) ∧ w' = w.alloc (.cells #[c, v] 51) := by
  refine callsIn_of_wp Try.func44 rfl h6 ?_ hro
  simp only [Try.ntmps44, List.size_toArray, List.length_cons, List.length_nil, Nat.reduceAdd, Nat.reduceSub, Array.replicate_succ, Array.replicate_zero, List.push_toArray, List.append_toArray, List.nil_append, List.cons_append]
  gi_wp2
  go_ret
  exact ⟨rfl, rfl⟩
theorem le_all_stops (F : Fence) (n : Nat) (h7 : F.fn 59) (hro : F.round = none) (hn : 1 ≤ n) (Bt cap : Nat) (A : Option Addr) (zs : List En) (hl : zs.length ≤ 4000) (w0 w : World) (hs : SliceAt w0 A 3 enCell zs) (hg : Gr w0 w) (hB : w.cell? ⟨Bt, 1, none⟩ = some (.slice A zs.length cap)) (hlt : Bt < w.heap.size) :
    SeqStopsK F n Try.prog 59 #[.pointer (some ⟨Bt, 0, none⟩)] enEnc (Below w0.heap.size) (fun ys => ys = zs) (fun pre => pre <+: zs) zs.length w := fun l J Jx W hW hJ _ hY h0 =>
  le_all1 F n h7 hro hn l Bt cap A zs hl w0 hs J Jx W hJ hY (Gr.trans hg hW) ((hW.cell (p := ⟨Bt, 1, none⟩) hlt).trans hB) h0
end Go.Proofs.Ytmclhhlekblkeaa
