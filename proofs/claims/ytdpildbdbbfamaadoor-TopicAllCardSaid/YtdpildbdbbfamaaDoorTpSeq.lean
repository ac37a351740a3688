/- Layer 20: strings.SplitSeq's closure, whatever loop is over it. -/
import Derived.RangeFuncNested
import Derived.RangeFuncBound
import Derived.RangeFuncCalls
import Derived.RangeFuncLeaves
import Derived.RangeFuncBox
import Derived.Shelf.Abstract
import Derived.Shelf.RegionOpen
import Derived.WalkKit
import Derived.OwnWalkIn
import Derived.TacticsInMore
import Derived.LoopNIn
import Derived.LoopIn
import Derived.Laws.EntriesVeiled
import Derived.Test.YtdpildbdbbfamaaDoorOwn4
import Derived.Test.YtdpildbdbbfamaaDoorTpM
import Derived.Test.YtdpildbdbbfamaaDoorShelf
namespace Go.Proofs.YtdpildbdbbfamaaDoor
open Go.RowKit Go.Shelf
set_option linter.unusedVariables false
set_option linter.unusedSimpArgs false
set_option maxRecDepth 100000
set_option maxHeartbeats 2000000
attribute [local go_sem] Oper.semAt_some
theorem idx_cons (c : UInt8) (hc : c ≠ 46) (l : List UInt8) : Lib.index (c :: l) [46] = if Lib.index l [46] == -1 then -1 else Lib.index l [46] + 1 := by
  rw [Lib.index]
  have : List.isPrefixOf [46] (c :: l) = false := by simp [List.isPrefixOf, Ne.symm hc]
  rw [this]; rfl
theorem idx_none : ∀ (s : List UInt8), (∀ c ∈ s, c ≠ 46) → Lib.index s [46] = -1
  | [], _ => rfl
  | c :: s, h => by
    rw [idx_cons c (h c (by simp)), idx_none s (fun d hd => h d (by simp [hd]))]
    rfl
theorem idx_at : ∀ (a r : List UInt8), (∀ c ∈ a, c ≠ 46) → Lib.index (a ++ 46 :: r) [46] = (a.length : Int)
  | [], r, _ => by
    rw [List.nil_append, Lib.index]
    rfl
  | c :: a, r, h => by
    rw [List.cons_append, idx_cons c (h c (by simp)), idx_at a r (fun d hd => h d (by simp [hd]))]
    have : ((a.length : Int) == -1) = false := by rw [beq_eq_false_iff_ne]; omega
    rw [this]
    simp
theorem dot_or : ∀ (s : List UInt8), (∀ c ∈ s, c ≠ 46) ∨ ∃ a r, s = a ++ 46 :: r ∧ ∀ c ∈ a, c ≠ 46
  | [] => .inl (by simp)
  | c :: s => by
    by_cases hc : c = 46
    · subst hc
      exact .inr ⟨[], s, rfl, by simp⟩
    · rcases dot_or s with h | ⟨a, r, h, ha⟩
      · exact .inl (by intro d hd; rcases List.mem_cons.1 hd with rfl | hd; exact hc; exact h d hd)
      · exact .inr ⟨c :: a, r, by rw [h]; rfl, by intro d hd; rcases List.mem_cons.1 hd with rfl | hd; exact hc; exact ha d hd⟩
/-- the closure's three cells: the stop, the text, how much of the stop is kept -/
structure SpAt (W : World) (Bp Bs Bv : Nat) (s : List UInt8) : Prop where
  p : W.heap[Bp]? = some (.cells #[.string ⟨#[46]⟩] 9 (0, 0))
  s : W.heap[Bs]? = some (.cells #[.string (B s)] 9 (0, 0))
  v : W.heap[Bv]? = some (.cells #[.int .i64 0] 3 (0, 0))
  m : ∃ m, W.cell? ⟨0, 0, none⟩ = some (.int .i64 m)
theorem sp_cell {w : World} {g : Nat} {t : TypeId} {cs : Array Value} (h : w.heap[g]? = some (.cells cs t (0, 0))) (i : Nat) (v : Value) (hv : cs[i]? = some v) : w.cell? ⟨g, i, none⟩ = some v := by
  rw [cell_of_row w g i cs t (0, 0) h]; exact hv
theorem SpAt.set {W : World} {Bp Bs Bv : Nat} {r : List UInt8} (r2 : List UInt8) (h : SpAt W Bp Bs Bv r) (hne : Bp ≠ Bs ∧ Bv ≠ Bs ∧ Bs ≠ 0) : SpAt (W.setCell ⟨Bs, 0, none⟩ (.string (B r2))) Bp Bs Bv r2 := by
  refine ⟨(heap_setCell_other _ _ _ _ (by show Bp ≠ Bs; exact hne.1)).trans h.p, heap_setCell_same _ _ 0 _ _ (.string (B r2)) h.s, (heap_setCell_other _ _ _ _ (by show Bv ≠ Bs; exact hne.2.1)).trans h.v, ?_⟩
  obtain ⟨m, hm⟩ := h.m
  refine ⟨m, ?_⟩
  have e := heap_setCell_other W ⟨Bs, 0, none⟩ 0 (.string (B r2)) (by show 0 ≠ Bs; exact fun h => hne.2.2 h.symm)
  unfold World.cell? at hm ⊢
  rw [e]
  exact hm
def measW (Bs : Nat) (w : World) : Nat := match w.cell? ⟨Bs, 0, none⟩ with
  | some (.string b) => b.size
  | _ => 0
theorem measW_at {w : World} {Bp Bs Bv : Nat} {s : List UInt8} (h : SpAt w Bp Bs Bv s) : measW Bs w = s.length := by
  unfold measW
  rw [sp_cell h.s 0 _ rfl]
  exact B_size s
theorem sp_index (r : List UInt8) (hr : r.length ≤ 4000) (w : World) (hm : ∃ m, w.cell? ⟨0, 0, none⟩ = some (.int .i64 m)) : Calls Tryd.prog 27 #[.string (B r), .string ⟨#[46]⟩] w fun e w' => e = .returned (.int .i64 (Lib.index r [46])) ∧ w' = w := by
  obtain ⟨m, hm⟩ := hm
  have h := Tryd.strings_Index (B r) ⟨#[46]⟩ m w (by rw [B_size]; omega) hm
  exact h
theorem B_ext (l : List UInt8) (i j : Nat) : (B l).extract i j = B ((l.drop i).take (j - i)) := by
  apply ByteArray.ext
  apply Array.ext'
  rw [B_list]
  simp only [ByteArray.data_extract, Array.toList_extract, List.extract_eq_take_drop]
  rfl
theorem sp_seq1 (n : Nat) (hn : 1 ≤ n) (l Bp Bs Bv : Nat) (hne : Bp ≠ Bs ∧ Bv ≠ Bs ∧ Bs ≠ 0) (s : List UInt8) (hs : s.length ≤ 4000) (J : List ByteArray → World → Prop) (hJs : ∀ pre W u, J pre W → J pre (W.setCell ⟨Bs, 0, none⟩ u))
    (hY : ∀ pre x W r, J pre W → SpAt W Bp Bs Bv r → pre.length < (splitW s).length → YieldAt Fence.wide (n - 1) Tryd.prog l #[.string x] W fun e W' =>
      e = .returned (.bool true) ∧ J (pre ++ [x]) W' ∧ SpAt W' Bp Bs Bv r)
    (W : World) (hB : SpAt W Bp Bs Bv s) (h0 : J [] W) :
    CallsIn Fence.wide n Tryd.prog 47 #[.func (.yield l) #[] #[], .pointer (some ⟨Bp, 0, none⟩), .pointer (some ⟨Bs, 0, none⟩), .pointer (some ⟨Bv, 0, none⟩)] W fun e W' => (∃ v, e = .returned v) ∧ J ((splitW s).map B) W' := by
  have p0 := sp_cell hB.p 0 _ rfl
  have s0 := sp_cell hB.s 0 _ rfl
  have v0 := sp_cell hB.v 0 _ rfl
  refine callsIn_of_wp Tryd.func47 rfl trivial ?_ rfl
  simp only [Tryd.ntmps47, List.size_toArray, List.length_cons, List.length_nil, Nat.reduceAdd, Nat.reduceSub, Array.replicate_succ, Array.replicate_zero, List.push_toArray, List.append_toArray, List.nil_append, List.cons_append]
  gi_wp2
  gi_loopw [7] (fun i wr => ∃ pre r : _, splitW s = pre ++ splitW r ∧ r.length ≤ s.length ∧ SpAt wr Bp Bs Bv r ∧ J (pre.map B) wr) (fun _ wr => measW Bs wr)
  case atStart => exact ⟨[], s, rfl, Nat.le_refl _, hB, h0⟩
  case round =>
    obtain ⟨pre, r, hsp, hlen, hB2, hJ2⟩ := hrel
    clear p0 s0 v0
    have p0 := sp_cell hB2.p 0 _ rfl
    have s0 := sp_cell hB2.s 0 _ rfl
    have v0 := sp_cell hB2.v 0 _ rfl
    have cI := Lib.hid (sp_index r (by omega) wr hB2.m)
    have HB2 := Lib.hid hB2
    have HY := Lib.hid hY
    have HJ := Lib.hid hJ2
    clear hY hJ2 hB2
    rcases dot_or r with hno | ⟨a, r2, hr, ha⟩
    · rw [idx_none r hno] at cI
      have hs1 := split_none r hno
      have HS := Lib.hid (And.intro hsp hs1)
      clear hno hsp hs1
      obtain ⟨fn, tmps, assign, body, hy, hR⟩ := HY.out (pre.map B) (B r) wr r HJ.out HB2.out (by rw [HS.out.1, HS.out.2]; simp)
      gi_wp2_with (refine ⟨trivial, ?_⟩; gi_at_call 27; refine (callsIn_wide.2 cI.out).mono ?_; rintro e w' ⟨rfl, rfl⟩)
      refine hR.mono ?_
      rintro e W3 ⟨rfl, hJ3, hB3⟩
      gi_wp2
      go_end0
      refine ⟨⟨_, rfl⟩, ?_⟩
      rw [HS.out.1, HS.out.2, List.map_append]
      exact hJ3
    · have hi := idx_at a r2 ha
      rw [← hr] at hi
      rw [hi] at cI
      have hs1 := split_at a r2 ha
      rw [← hr] at hs1
      have HS := Lib.hid (And.intro hsp hs1)
      have hrl : r.length = a.length + 1 + r2.length := by rw [hr]; simp; omega
      have he1 : (B r).extract 0 a.length = B a := by rw [B_ext, hr]; simp
      have he2 : (B r).extract (a.length + 1) r.length = B r2 := by
        rw [B_ext, hrl, hr]
        simp
      have hl1 : a.length ≤ r.length := by omega
      have hl2 : a.length + 1 ≤ r.length := by omega
      have hl3 : ((a.length : Nat) : Int) ≤ ((r.length : Nat) : Int) := by omega
      have hl4 : ((a.length : Nat) : Int) + 1 ≤ ((r.length : Nat) : Int) := by omega
      have hw1 : IntKind.i64.wrap ((a.length : Nat) : Int) = ((a.length : Nat) : Int) := by rw [IntKind.wrap_i64]; omega
      have hw2 : IntKind.i64.wrap (((a.length : Nat) : Int) + 1) = ((a.length : Nat) : Int) + 1 := by rw [IntKind.wrap_i64]; omega
      have hz : (B r).size = r.length := B_size r
      have HR := Lib.hid (And.intro hrl (And.intro hr ha))
      clear hi hsp hs1 hrl hr ha
      obtain ⟨fn, tmps, assign, body, hy, hR⟩ := HY.out (pre.map B) (B a) wr r HJ.out HB2.out (by rw [HS.out.1, HS.out.2]; simp)
      gi_wp2_with (refine ⟨trivial, ?_⟩; gi_at_call 27; refine (callsIn_wide.2 cI.out).mono ?_; rintro e w' ⟨rfl, rfl⟩)
      refine hR.mono ?_
      rintro e W3 ⟨rfl, hJ3, hB3⟩
      have p3 := sp_cell hB3.p 0 _ rfl
      have s3 := sp_cell hB3.s 0 _ rfl
      have v3 := sp_cell hB3.v 0 _ rfl
      have f3 := frozen_of_row _ _ 0 _ _ hB3.s
      have HB3 := Lib.hid (And.intro (hB3.set r2 hne) (hJs _ _ (.string (B r2)) hJ3))
      clear hJ3 hB3
      gi_wp2
      go_roundw
      case rel => exact ⟨pre ++ [a], r2, by rw [HS.out.1, HS.out.2]; simp, by have := HR.out.1; omega, HB3.out.1, by rw [List.map_append]; exact HB3.out.2⟩
      case measure =>
        rw [measW_at HB3.out.1, measW_at HB2.out]
        have := HR.out.1
        omega
end Go.Proofs.YtdpildbdbbfamaaDoor
