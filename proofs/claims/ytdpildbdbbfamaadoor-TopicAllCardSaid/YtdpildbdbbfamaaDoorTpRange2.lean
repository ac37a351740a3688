/- Layer 20: a range over strings.SplitSeq's closure, for a caller whose body may leave. -/
import Derived.Test.YtdpildbdbbfamaaDoorTpRange
namespace Go.Proofs.YtdpildbdbbfamaaDoor
open Go.RowKit Go.Shelf
set_option linter.unusedVariables false
set_option linter.unusedSimpArgs false
set_option maxRecDepth 100000
set_option maxHeartbeats 2000000
attribute [local go_sem] Oper.semAt_some
theorem sp_seq2 (n : Nat) (hn : 1 ≤ n) (l Bp Bs Bv : Nat) (hne : Bp ≠ Bs ∧ Bv ≠ Bs ∧ Bs ≠ 0) (s : List UInt8) (hs : s.length ≤ 4000) (J Jx : List ByteArray → World → Prop) (hJs : ∀ pre W u, J pre W → J pre (W.setCell ⟨Bs, 0, none⟩ u))
    (hY : ∀ pre x W r, J pre W → SpAt W Bp Bs Bv r → (∃ post, (splitW s).map B = pre ++ x :: post) → YieldAt Fence.wide (n - 1) Tryd.prog l #[.string x] W fun e W' =>
      (e = .returned (.bool true) ∧ J (pre ++ [x]) W' ∧ SpAt W' Bp Bs Bv r) ∨ (e = .returned (.bool false) ∧ Jx (pre ++ [x]) W'))
    (W : World) (hB : SpAt W Bp Bs Bv s) (h0 : J [] W) :
    CallsIn Fence.wide n Tryd.prog 47 #[.func (.yield l) #[] #[], .pointer (some ⟨Bp, 0, none⟩), .pointer (some ⟨Bs, 0, none⟩), .pointer (some ⟨Bv, 0, none⟩)] W fun e W' => (∃ v, e = .returned v) ∧ (J ((splitW s).map B) W' ∨ ∃ pre, Jx pre W') := by
  have p0 := sp_cell hB.p 0 _ rfl
  have s0 := sp_cell hB.s 0 _ rfl
  have v0 := sp_cell hB.v 0 _ rfl
  refine callsIn_of_wp Tryd.func47 rfl trivial ?_ rfl
  simp only [Tryd.ntmps47, List.size_toArray, List.length_cons, List.length_nil, Nat.reduceAdd, Nat.reduceSub, Array.replicate_succ, Array.replicate_zero, List.push_toArray, List.append_toArray, List.nil_append, List.cons_append]
  gi_wp2
  gi_loopw [7] (fun i wr => ∃ pre r : _, splitW s = pre ++ splitW r ∧ r.length ≤ s.length ∧ SpAt wr Bp Bs Bv r ∧ J (pre.map B) wr) (fun _ wr => measW Bs wr)
  case atStart => exact ⟨[], s, rfl, Nat.le_refl _, hB, h0⟩
  case round =>
    obtain ⟨pre, r, hsp, hlen, hB2, hJ2⟩ := hrel
    clear p0 s0 v0
    have p0 := sp_cell hB2.p 0 _ rfl
    have s0 := sp_cell hB2.s 0 _ rfl
    have v0 := sp_cell hB2.v 0 _ rfl
    have cI := Lib.hid (sp_index r (by omega) wr hB2.m)
    have HB2 := Lib.hid hB2
    have HY := Lib.hid hY
    have HJ := Lib.hid hJ2
    clear hY hJ2 hB2
    rcases dot_or r with hno | ⟨a, r2, hr, ha⟩
    · rw [idx_none r hno] at cI
      have hs1 := split_none r hno
      have HS := Lib.hid (And.intro hsp hs1)
      clear hno hsp hs1
      obtain ⟨fn, tmps, assign, body, hy, hR⟩ := HY.out (pre.map B) (B r) wr r HJ.out HB2.out ⟨[], by rw [HS.out.1, HS.out.2]; simp⟩
      gi_wp2_with (refine ⟨trivial, ?_⟩; gi_at_call 27; refine (callsIn_wide.2 cI.out).mono ?_; rintro e w' ⟨rfl, rfl⟩)
      refine hR.mono ?_
      rintro e W3 (⟨rfl, hJ3, hB3⟩ | ⟨rfl, hJ3⟩)
      · gi_wp2
        go_end0
        refine ⟨⟨_, rfl⟩, .inl ?_⟩
        rw [HS.out.1, HS.out.2, List.map_append]
        exact hJ3
      · gi_wp2
        go_end0
        exact ⟨⟨_, rfl⟩, .inr ⟨_, hJ3⟩⟩
    · have hi := idx_at a r2 ha
      rw [← hr] at hi
      rw [hi] at cI
      have hs1 := split_at a r2 ha
      rw [← hr] at hs1
      have HS := Lib.hid (And.intro hsp hs1)
      have hrl : r.length = a.length + 1 + r2.length := by rw [hr]; simp; omega
      have he1 : (B r).extract 0 a.length = B a := by rw [B_ext, hr]; simp
      have he2 : (B r).extract (a.length + 1) r.length = B r2 := by
        rw [B_ext, hrl, hr]
        simp
      have hl1 : a.length ≤ r.length := by omega
      have hl2 : a.length + 1 ≤ r.length := by omega
      have hl3 : ((a.length : Nat) : Int) ≤ ((r.length : Nat) : Int) := by omega
      have hl4 : ((a.length : Nat) : Int) + 1 ≤ ((r.length : Nat) : Int) := by omega
      have hw1 : IntKind.i64.wrap ((a.length : Nat) : Int) = ((a.length : Nat) : Int) := by rw [IntKind.wrap_i64]; omega
      have hw2 : IntKind.i64.wrap (((a.length : Nat) : Int) + 1) = ((a.length : Nat) : Int) + 1 := by rw [IntKind.wrap_i64]; omega
      have hz : (B r).size = r.length := B_size r
      have HR := Lib.hid (And.intro hrl (And.intro hr ha))
      clear hi hsp hs1 hrl hr ha
      obtain ⟨fn, tmps, assign, body, hy, hR⟩ := HY.out (pre.map B) (B a) wr r HJ.out HB2.out ⟨(splitW r2).map B, by rw [HS.out.1, HS.out.2]; simp⟩
      gi_wp2_with (refine ⟨trivial, ?_⟩; gi_at_call 27; refine (callsIn_wide.2 cI.out).mono ?_; rintro e w' ⟨rfl, rfl⟩)
      refine hR.mono ?_
      rintro e W3 (⟨rfl, hJ3, hB3⟩ | ⟨rfl, hJ3⟩)
      rotate_left
      · gi_wp2
        (try simp only [Exit.inBlock, Exit.then]); refine bodyPost_ret (results_none rfl _ _ _) rfl ?_
        exact ⟨⟨_, rfl⟩, .inr ⟨_, hJ3⟩⟩
      have p3 := sp_cell hB3.p 0 _ rfl
      have s3 := sp_cell hB3.s 0 _ rfl
      have v3 := sp_cell hB3.v 0 _ rfl
      have f3 := frozen_of_row _ _ 0 _ _ hB3.s
      have HB3 := Lib.hid (And.intro (hB3.set r2 hne) (hJs _ _ (.string (B r2)) hJ3))
      clear hJ3 hB3
      gi_wp2
      go_roundw
      case rel => exact ⟨pre ++ [a], r2, by rw [HS.out.1, HS.out.2]; simp, by have := HR.out.1; omega, HB3.out.1, by rw [List.map_append]; exact HB3.out.2⟩
      case measure =>
        rw [measW_at HB3.out.1, measW_at HB2.out]
        have := HR.out.1
        omega
/-- what a round must leave -/
def rndPost2 (B : Nat) (I Ix : List ByteArray → World → Prop) (Bp Bs Bv : Nat) (r : List UInt8) (xs : List ByteArray) (W : World) : Exit → Act → World → Prop
  | .normal, _, W' => KeepsFrom B W W' ∧ I xs W' ∧ SpAt W' Bp Bs Bv r
  | .ret, _, W' => KeepsFrom B W W' ∧ Ix xs W'
  | _, _, _ => False
theorem range_split2 {g : Operand} {ps : Array Tmp} {assign body : Code} {Q : Exit → Act → World → Prop} {a : Act} {w : World} (n : Nat) (hn : 2 ≤ n) (Bp Bs Bv : Nat) (hne : Bp ≠ Bs ∧ Bv ≠ Bs ∧ Bs ≠ 0) (s : List UInt8) (hs : s.length ≤ 4000)
    (hg : a.eval g = .func (.func 47) #[] #[.pointer (some ⟨Bp, 0, none⟩), .pointer (some ⟨Bs, 0, none⟩), .pointer (some ⟨Bv, 0, none⟩)]) (hps : ps.size = 1) (hB : SpAt w Bp Bs Bv s)
    (I : List ByteArray → World → Prop) (hI : OwnFrom w.heap.size I) (hIs : ∀ pre W u, I pre W → I pre (W.setCell ⟨Bs, 0, none⟩ u)) (Ix : List ByteArray → World → Prop) (hIx : OwnFrom w.heap.size Ix) (h0 : I [] w) (Ax : ByteArray → Act → World → Prop) (hAx : ∀ x a', OwnFrom w.heap.size (fun (_ : Unit) W => Ax x a' W))
    (hassign : ∀ (l : Nat) (pre : List ByteArray) (x : ByteArray) (r : List UInt8) (W : World) (K : Act → World → Prop), I pre W → SpAt W Bp Bs Bv r → (∀ a' W', KeepsFrom w.heap.size W W' → I pre W' → SpAt W' Bp Bs Bv r → Ax x a' W' → K a' W') →
      assign.wpIn (Fence.wide.inRound l) (n - 1 - 1) Tryd.prog (Exit.then K (fun _ _ _ => False)) { tmps := (ps.zip #[.string x]).foldl (fun t (p, v) => t.setIfInBounds p v) a.tmps, defers := [] } W)
    (hbody : ∀ (l : Nat) (pre : List ByteArray) (x : ByteArray) (a' : Act) (r : List UInt8) (W : World), w.heap.size ≤ l → I pre W → SpAt W Bp Bs Bv r → Ax x a' W → (∃ post, (splitW s).map B = pre ++ x :: post) → body.wpIn (Fence.wide.inRound l) (n - 1 - 1) Tryd.prog (rndPost2 w.heap.size I Ix Bp Bs Bv r (pre ++ [x]) W) a' W)
    (hdone : ∀ (D : Nat) (W : World), w.heap.size ≤ D → I ((splitW s).map B) W → W.heap[D]? = some (.deferred (some [])) → Q .normal { a with defers := { target := .collected D, args := #[] } :: a.defers } W)
    (hstop : ∀ (D : Nat) (pre : List ByteArray) (W : World), w.heap.size ≤ D → Ix pre W → W.heap[D]? = some (.deferred (some [])) → Code.ret.wpIn Fence.wide n Tryd.prog Q { a with defers := { target := .collected D, args := #[] } :: a.defers } W) :
    (Code.rangeFunc g ps assign body).wpIn Fence.wide n Tryd.prog Q a w := by
  refine wpIn_rangeFunc ?_
  intro fn hfn
  obtain ⟨r0, hr0⟩ : ∃ r0 : Loop, r0 = { state := .ready, pending := none, fn := fn, tmps := a.tmps, params := ps, assign := assign, body := body, defers := w.heap.size } := ⟨_, rfl⟩
  obtain ⟨r1, hr1⟩ : ∃ r1 : Loop, r1 = { r0 with state := .done, pending := some .ret } := ⟨_, rfl⟩
  have hdn : r1.state = .done := by rw [hr1]
  have hpd : r1.pending = some .ret := by rw [hr1]
  have hready : r0.state = .ready := by rw [hr0]
  have et : r0.tmps = a.tmps := by rw [hr0]
  have ep : r0.params = ps := by rw [hr0]
  have ea : r0.assign = assign := by rw [hr0]
  have eb : r0.body = body := by rw [hr0]
  have hback : ({ { r0 with state := .busy } with state := .ready, pending := none } : Loop) = r0 := by rw [hr0]
  have hlS : Bs < w.heap.size := (Array.getElem?_eq_some_iff.1 hB.s).1
  have hL : ((w.alloc (.deferred (some []))).alloc (.loop r0)).heap[w.heap.size + 1]? = some (.loop r0) := by
    have h := World.alloc_heap_new (w.alloc (.deferred (some []))) (.loop r0)
    rw [World.size_alloc] at h
    exact h
  have hD : ((w.alloc (.deferred (some []))).alloc (.loop r0)).heap[w.heap.size]? = some (.deferred (some [])) :=
    (((Gr.refl _).alloc (.loop r0)).block (by rw [World.size_alloc]; omega)).trans (World.alloc_heap_new w _)
  have hI1 : I [] ((w.alloc (.deferred (some []))).alloc (.loop r0)) := hI.alloc _ (hI.alloc _ h0)
  have hB1 : SpAt ((w.alloc (.deferred (some []))).alloc (.loop r0)) Bp Bs Bv s := (hB.alloc _).alloc _
  obtain ⟨W1, hW1⟩ : ∃ W1, W1 = (w.alloc (.deferred (some []))).alloc (.loop r0) := ⟨_, rfl⟩
  rw [← hW1] at hL hD hI1 hB1
  refine ⟨w.heap.size + 1, [{ target := .collected w.heap.size, args := #[] }], W1, { target := .fn (.func 47) #[.pointer (some ⟨Bp, 0, none⟩), .pointer (some ⟨Bs, 0, none⟩), .pointer (some ⟨Bv, 0, none⟩)], args := #[.func (.yield (w.heap.size + 1)) #[] #[]] }, W1, 47,
    #[.func (.yield (w.heap.size + 1)) #[] #[]] ++ #[.pointer (some ⟨Bp, 0, none⟩), .pointer (some ⟨Bs, 0, none⟩), .pointer (some ⟨Bv, 0, none⟩)], W1, ?_, ?_, ?_, ?_, (fun h => by cases h), ?_⟩
  · rw [hW1, hr0]; exact run_enterLoop_outer _ _ _ _ _
  · simp only [resolve, hg]
    simp [go_sem]
  · intro f' _; trivial
  · have eg := enters_of Tryd.func47 (by kernel_rfl) rfl
    simp [invoke, go_sem, eg]
  · refine (sp_seq2 (n - 1) (by omega) (w.heap.size + 1) Bp Bs Bv hne s hs
      (fun pre W => I pre W ∧ W.heap[w.heap.size + 1]? = some (.loop r0) ∧ W.heap[w.heap.size]? = some (.deferred (some [])))
      (fun pre W => Ix pre W ∧ W.heap[w.heap.size + 1]? = some (.loop r1) ∧ W.heap[w.heap.size]? = some (.deferred (some [])))
      (fun pre W u h => ⟨hIs pre W u h.1, (heap_setCell_other _ _ _ _ (by show w.heap.size + 1 ≠ Bs; omega)).trans h.2.1, (heap_setCell_other _ _ _ _ (by show w.heap.size ≠ Bs; omega)).trans h.2.2⟩)
      ?_ _ hB1 ⟨hI1, hL, hD⟩).mono ?_
    · rintro pre x W r ⟨hi, hl, hk⟩ hb hlen
      have hy := run_yield (P := Tryd.prog) (args := #[.string x]) hl (by rw [hr0]; exact hps.symm)
      refine ⟨_, _, _, _, hy, roundIn_of_wpIn (by rw [hr0]; exact hfn) ?_⟩
      rw [et, ep, ea]
      refine hassign _ pre x r W _ hi hb ?_
      rw [eb]
      intro a' Wa hka hia hba hxa
      have hla := hka.same _ _ (Nat.le_succ _) hl rfl
      have hda := hka.same _ _ (Nat.le_refl _) hk rfl
      refine ⟨_, run_beginRound hla hready, ?_⟩
      have hlt : w.heap.size + 1 < Wa.heap.size := (Array.getElem?_eq_some_iff.1 hla).1
      have hl2 : (Wa.putObj (w.heap.size + 1) (.loop { r0 with state := .busy })).heap[w.heap.size + 1]? = some (.loop { r0 with state := .busy }) := World.putObj_heap_same hlt
      have hd2 : (Wa.putObj (w.heap.size + 1) (.loop { r0 with state := .busy })).heap[w.heap.size]? = some (.deferred (some [])) := (World.putObj_heap_other (by omega)).trans hda
      refine wpIn_mono (hbody _ pre x a' r _ (Nat.le_succ _) (hI.putObj _ hia (Nat.le_succ _) hla rfl) (hba.putObj _ hla rfl) ((hAx x a').putObj (s := ()) _ hxa (Nat.le_succ _) hla rfl) hlen) ?_
      rintro e a3 W3 hp
      cases e with
      | normal =>
        obtain ⟨hk3, hi3, hb3⟩ := hp
        have hl3 := hk3.same _ _ (Nat.le_succ _) hl2 rfl
        have hd3 := hk3.same _ _ (Nat.le_refl _) hd2 rfl
        have hlt3 : w.heap.size + 1 < W3.heap.size := (Array.getElem?_eq_some_iff.1 hl3).1
        have hend := run_endRound (P := Tryd.prog) none hl3
        simp only [Option.isNone_none, if_true] at hend
        rw [hback] at hend
        exact ⟨_, _, hend, .inl ⟨rfl, ⟨hI.putObj _ hi3 (Nat.le_succ _) hl3 rfl, World.putObj_heap_same hlt3, (World.putObj_heap_other (by omega)).trans hd3⟩, hb3.putObj _ hl3 rfl⟩⟩
      | ret =>
        obtain ⟨hk3, hi3⟩ := hp
        have hl3 := hk3.same _ _ (Nat.le_succ _) hl2 rfl
        have hd3 := hk3.same _ _ (Nat.le_refl _) hd2 rfl
        have hlt3 : w.heap.size + 1 < W3.heap.size := (Array.getElem?_eq_some_iff.1 hl3).1
        have hend := run_endRound (P := Tryd.prog) (some .ret) hl3
        simp only [Option.isNone_some, Bool.false_eq_true, if_false] at hend
        have hrr : ({ { r0 with state := .busy } with state := .done, pending := some .ret } : Loop) = r1 := hr1.symm
        rw [hrr] at hend
        exact ⟨_, _, hend, .inr ⟨rfl, hIx.putObj _ hi3 (Nat.le_succ _) hl3 rfl, World.putObj_heap_same hlt3, (World.putObj_heap_other (by omega)).trans hd3⟩⟩
      | _ => exact hp.elim
    · rintro e W2 ⟨⟨v, rfl⟩, (⟨hi, hl, hk⟩ | ⟨pre, hi, hl, hk⟩)⟩
      rotate_left
      · have hend := run_endLoop (P := Tryd.prog) hl (by rw [hdn]; simp)
        refine ⟨r1.pending, _, hend, ?_⟩
        rw [hpd]
        exact hstop _ pre _ (Nat.le_refl _) (hIx.putObj _ hi (Nat.le_succ _) hl rfl) ((World.putObj_heap_other (by omega)).trans hk)
      have hend := run_endLoop (P := Tryd.prog) hl (by rw [hready]; simp)
      refine ⟨r0.pending, _, hend, ?_⟩
      have hp : r0.pending = none := by rw [hr0]
      rw [hp]
      exact hdone _ _ (Nat.le_refl _) (hI.putObj _ hi (Nat.le_succ _) hl rfl) ((World.putObj_heap_other (by omega)).trans hk)
end Go.Proofs.YtdpildbdbbfamaaDoor
