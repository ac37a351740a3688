/- Layer 20: a range over strings.SplitSeq's closure, which keeps its own text in a cell: a law for the caller whose body never leaves. -/
import Derived.Test.YtdpildbdbbfamaaDoorTpSeq
namespace Go.Proofs.YtdpildbdbbfamaaDoor
open Go.RowKit Go.Shelf
set_option linter.unusedVariables false
set_option linter.unusedSimpArgs false
set_option maxRecDepth 100000
set_option maxHeartbeats 2000000
attribute [local go_sem] Oper.semAt_some
theorem SpAt.keep {W W' : World} {Bp Bs Bv : Nat} {r : List UInt8} (h : SpAt W Bp Bs Bv r) (hk : ∀ k o, k < W.heap.size → W.heap[k]? = some o → o.isCells = true → W'.heap[k]? = some o) : SpAt W' Bp Bs Bv r := by
  have k2 : ∀ (k : Nat) (cs : Array Value) (t : TypeId), W.heap[k]? = some (Obj.cells cs t (0, 0)) → W'.heap[k]? = some (Obj.cells cs t (0, 0)) := fun k cs t h => hk k _ (Array.getElem?_eq_some_iff.1 h).1 h rfl
  refine ⟨k2 _ _ _ h.p, k2 _ _ _ h.s, k2 _ _ _ h.v, ?_⟩
  obtain ⟨m, hm⟩ := h.m
  refine ⟨m, ?_⟩
  unfold World.cell? at hm ⊢
  cases h0 : W.heap[0]? with
  | none => rw [h0] at hm; cases hm
  | some o =>
    rw [h0] at hm
    cases o with
    | cells cs t fr => rw [hk 0 _ (Array.getElem?_eq_some_iff.1 h0).1 h0 rfl]; exact hm
    | _ => cases hm
theorem SpAt.putObj {W : World} {Bp Bs Bv : Nat} {r : List UInt8} (h : SpAt W Bp Bs Bv r) {l : Nat} {o : Obj} (o' : Obj) (hl : W.heap[l]? = some o) (ho : o.isCells = false) : SpAt (W.putObj l o') Bp Bs Bv r := by
  refine h.keep (fun k o2 hk h2 h3 => ?_)
  have hne : k ≠ l := fun e => by
    rw [e, hl] at h2
    cases h2
    rw [ho] at h3
    cases h3
  exact (World.putObj_heap_other hne).trans h2
theorem SpAt.alloc {W : World} {Bp Bs Bv : Nat} {r : List UInt8} (h : SpAt W Bp Bs Bv r) (o : Obj) : SpAt (W.alloc o) Bp Bs Bv r :=
  h.keep (fun k o2 hk h2 _ => (((Gr.refl W).alloc o).block hk).trans h2)
/-- what a round must leave -/
def rndPost (B : Nat) (I : List ByteArray → World → Prop) (Bp Bs Bv : Nat) (r : List UInt8) (xs : List ByteArray) (W : World) : Exit → Act → World → Prop
  | .normal, _, W' => KeepsFrom B W W' ∧ I xs W' ∧ SpAt W' Bp Bs Bv r
  | _, _, _ => False
theorem range_split {g : Operand} {ps : Array Tmp} {assign body : Code} {Q : Exit → Act → World → Prop} {a : Act} {w : World} (n : Nat) (hn : 2 ≤ n) (Bp Bs Bv : Nat) (hne : Bp ≠ Bs ∧ Bv ≠ Bs ∧ Bs ≠ 0) (s : List UInt8) (hs : s.length ≤ 4000)
    (hg : a.eval g = .func (.func 47) #[] #[.pointer (some ⟨Bp, 0, none⟩), .pointer (some ⟨Bs, 0, none⟩), .pointer (some ⟨Bv, 0, none⟩)]) (hps : ps.size = 1) (hB : SpAt w Bp Bs Bv s)
    (I : List ByteArray → World → Prop) (hI : OwnFrom w.heap.size I) (hIs : ∀ pre W u, I pre W → I pre (W.setCell ⟨Bs, 0, none⟩ u)) (h0 : I [] w) (Ax : ByteArray → Act → World → Prop) (hAx : ∀ x a', OwnFrom w.heap.size (fun (_ : Unit) W => Ax x a' W))
    (hassign : ∀ (l : Nat) (pre : List ByteArray) (x : ByteArray) (r : List UInt8) (W : World) (K : Act → World → Prop), I pre W → SpAt W Bp Bs Bv r → (∀ a' W', KeepsFrom w.heap.size W W' → I pre W' → SpAt W' Bp Bs Bv r → Ax x a' W' → K a' W') →
      assign.wpIn (Fence.wide.inRound l) (n - 1 - 1) Tryd.prog (Exit.then K (fun _ _ _ => False)) { tmps := (ps.zip #[.string x]).foldl (fun t (p, v) => t.setIfInBounds p v) a.tmps, defers := [] } W)
    (hbody : ∀ (l : Nat) (pre : List ByteArray) (x : ByteArray) (a' : Act) (r : List UInt8) (W : World), w.heap.size ≤ l → I pre W → SpAt W Bp Bs Bv r → Ax x a' W → pre.length < (splitW s).length → body.wpIn (Fence.wide.inRound l) (n - 1 - 1) Tryd.prog (rndPost w.heap.size I Bp Bs Bv r (pre ++ [x]) W) a' W)
    (hdone : ∀ (D : Nat) (W : World), w.heap.size ≤ D → I ((splitW s).map B) W → W.heap[D]? = some (.deferred (some [])) → Q .normal { a with defers := { target := .collected D, args := #[] } :: a.defers } W) :
    (Code.rangeFunc g ps assign body).wpIn Fence.wide n Tryd.prog Q a w := by
  refine wpIn_rangeFunc ?_
  intro fn hfn
  obtain ⟨r0, hr0⟩ : ∃ r0 : Loop, r0 = { state := .ready, pending := none, fn := fn, tmps := a.tmps, params := ps, assign := assign, body := body, defers := w.heap.size } := ⟨_, rfl⟩
  have hready : r0.state = .ready := by rw [hr0]
  have et : r0.tmps = a.tmps := by rw [hr0]
  have ep : r0.params = ps := by rw [hr0]
  have ea : r0.assign = assign := by rw [hr0]
  have eb : r0.body = body := by rw [hr0]
  have hback : ({ { r0 with state := .busy } with state := .ready, pending := none } : Loop) = r0 := by rw [hr0]
  have hlS : Bs < w.heap.size := (Array.getElem?_eq_some_iff.1 hB.s).1
  have hL : ((w.alloc (.deferred (some []))).alloc (.loop r0)).heap[w.heap.size + 1]? = some (.loop r0) := by
    have h := World.alloc_heap_new (w.alloc (.deferred (some []))) (.loop r0)
    rw [World.size_alloc] at h
    exact h
  have hD : ((w.alloc (.deferred (some []))).alloc (.loop r0)).heap[w.heap.size]? = some (.deferred (some [])) :=
    (((Gr.refl _).alloc (.loop r0)).block (by rw [World.size_alloc]; omega)).trans (World.alloc_heap_new w _)
  have hI1 : I [] ((w.alloc (.deferred (some []))).alloc (.loop r0)) := hI.alloc _ (hI.alloc _ h0)
  have hB1 : SpAt ((w.alloc (.deferred (some []))).alloc (.loop r0)) Bp Bs Bv s := (hB.alloc _).alloc _
  obtain ⟨W1, hW1⟩ : ∃ W1, W1 = (w.alloc (.deferred (some []))).alloc (.loop r0) := ⟨_, rfl⟩
  rw [← hW1] at hL hD hI1 hB1
  refine ⟨w.heap.size + 1, [{ target := .collected w.heap.size, args := #[] }], W1, { target := .fn (.func 47) #[.pointer (some ⟨Bp, 0, none⟩), .pointer (some ⟨Bs, 0, none⟩), .pointer (some ⟨Bv, 0, none⟩)], args := #[.func (.yield (w.heap.size + 1)) #[] #[]] }, W1, 47,
    #[.func (.yield (w.heap.size + 1)) #[] #[]] ++ #[.pointer (some ⟨Bp, 0, none⟩), .pointer (some ⟨Bs, 0, none⟩), .pointer (some ⟨Bv, 0, none⟩)], W1, ?_, ?_, ?_, ?_, (fun h => by cases h), ?_⟩
  · rw [hW1, hr0]; exact run_enterLoop_outer _ _ _ _ _
  · simp only [resolve, hg]
    simp [go_sem]
  · intro f' _; trivial
  · have eg := enters_of Tryd.func47 (by kernel_rfl) rfl
    simp [invoke, go_sem, eg]
  · refine (sp_seq1 (n - 1) (by omega) (w.heap.size + 1) Bp Bs Bv hne s hs
      (fun pre W => I pre W ∧ W.heap[w.heap.size + 1]? = some (.loop r0) ∧ W.heap[w.heap.size]? = some (.deferred (some [])))
      (fun pre W u h => ⟨hIs pre W u h.1, (heap_setCell_other _ _ _ _ (by show w.heap.size + 1 ≠ Bs; omega)).trans h.2.1, (heap_setCell_other _ _ _ _ (by show w.heap.size ≠ Bs; omega)).trans h.2.2⟩)
      ?_ _ hB1 ⟨hI1, hL, hD⟩).mono ?_
    · rintro pre x W r ⟨hi, hl, hk⟩ hb hlen
      have hy := run_yield (P := Tryd.prog) (args := #[.string x]) hl (by rw [hr0]; exact hps.symm)
      refine ⟨_, _, _, _, hy, roundIn_of_wpIn (by rw [hr0]; exact hfn) ?_⟩
      rw [et, ep, ea]
      refine hassign _ pre x r W _ hi hb ?_
      rw [eb]
      intro a' Wa hka hia hba hxa
      have hla := hka.same _ _ (Nat.le_succ _) hl rfl
      have hda := hka.same _ _ (Nat.le_refl _) hk rfl
      refine ⟨_, run_beginRound hla hready, ?_⟩
      have hlt : w.heap.size + 1 < Wa.heap.size := (Array.getElem?_eq_some_iff.1 hla).1
      have hl2 : (Wa.putObj (w.heap.size + 1) (.loop { r0 with state := .busy })).heap[w.heap.size + 1]? = some (.loop { r0 with state := .busy }) := World.putObj_heap_same hlt
      have hd2 : (Wa.putObj (w.heap.size + 1) (.loop { r0 with state := .busy })).heap[w.heap.size]? = some (.deferred (some [])) := (World.putObj_heap_other (by omega)).trans hda
      refine wpIn_mono (hbody _ pre x a' r _ (Nat.le_succ _) (hI.putObj _ hia (Nat.le_succ _) hla rfl) (hba.putObj _ hla rfl) ((hAx x a').putObj (s := ()) _ hxa (Nat.le_succ _) hla rfl) hlen) ?_
      rintro e a3 W3 hp
      cases e with
      | normal =>
        obtain ⟨hk3, hi3, hb3⟩ := hp
        have hl3 := hk3.same _ _ (Nat.le_succ _) hl2 rfl
        have hd3 := hk3.same _ _ (Nat.le_refl _) hd2 rfl
        have hlt3 : w.heap.size + 1 < W3.heap.size := (Array.getElem?_eq_some_iff.1 hl3).1
        have hend := run_endRound (P := Tryd.prog) none hl3
        simp only [Option.isNone_none, if_true] at hend
        rw [hback] at hend
        exact ⟨_, _, hend, rfl, ⟨hI.putObj _ hi3 (Nat.le_succ _) hl3 rfl, World.putObj_heap_same hlt3, (World.putObj_heap_other (by omega)).trans hd3⟩, hb3.putObj _ hl3 rfl⟩
      | _ => exact hp.elim
    · rintro e W2 ⟨⟨v, rfl⟩, hi, hl, hk⟩
      have hend := run_endLoop (P := Tryd.prog) hl (by rw [hready]; simp)
      refine ⟨r0.pending, _, hend, ?_⟩
      have hp : r0.pending = none := by rw [hr0]
      rw [hp]
      exact hdone _ _ (Nat.le_refl _) (hI.putObj _ hi (Nat.le_succ _) hl rfl) ((World.putObj_heap_other (by omega)).trans hk)
end Go.Proofs.YtdpildbdbbfamaaDoor
