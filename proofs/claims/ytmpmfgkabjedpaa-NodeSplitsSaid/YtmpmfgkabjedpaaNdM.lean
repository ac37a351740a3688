/- Layer 10: what Split and Join answer, as lists; results of three. -/
import Derived.Test.YtmpmfgkabjedpaaNdB
namespace Go.Proofs.Ytmpmfgkabjedpaa
open Go.RowKit
set_option linter.unusedVariables false
set_option linter.unusedSimpArgs false
set_option maxRecDepth 100000
set_option maxHeartbeats 2000000
def spA {α : Type} (sm : List α → Nat) (xs : List α) : List α := if xs.length < 2 then xs else xs.take (hfAt sm xs)
def spB {α : Type} (sm : List α → Nat) (xs : List α) : List α := if xs.length < 2 then [] else xs.drop (hfAt sm xs)
def hdK {α : Type} (key : α → ByteArray) (xs : List α) : ByteArray := match xs with | [] => .empty | x :: _ => key x
def setK1 (k : ByteArray) : List Ki → List Ki | [] => [] | y :: ys => (k, y.2) :: ys
def setC1 (k : ByteArray) : List Ce → List Ce | [] => [] | y :: ys => (k, y.2) :: ys
theorem setC1_map (k : ByteArray) (ys : List Ki) : setC1 k (ys.map ceOf) = (setK1 k ys).map ceOf := by cases ys <;> rfl
theorem hdK_map (ys : List Ki) : hdK (fun x : Ce => x.1) (ys.map ceOf) = hdK (fun x : Ki => x.1) ys := by cases ys <;> rfl
theorem setK1_back (ys : List Ki) : setK1 (hdK (fun x : Ki => x.1) ys) (setK1 .empty ys) = ys := by cases ys <;> rfl
theorem setK1_len (k : ByteArray) (ys : List Ki) : (setK1 k ys).length = ys.length := by cases ys <;> rfl
theorem setC1_len (k : ByteArray) (ys : List Ce) : (setC1 k ys).length = ys.length := by cases ys <;> rfl
theorem sp_app {α : Type} (sm : List α → Nat) (xs : List α) : spA sm xs ++ spB sm xs = xs := by
  unfold spA spB; split
  · simp
  · exact List.take_append_drop _ _
theorem hfGo_ext (f g : Nat → Nat) (all : Nat) (s : Nat × Int) (h : ∀ i, f i = g i) (k : Nat) : hfGo f all s k = hfGo g all s k := by
  have : f = g := funext h
  rw [this]
theorem hfAt_map (ys : List Ki) : hfAt (rcSum false) (ys.map ceOf) = hfAt kiSum ys := by
  unfold hfAt
  rw [rcSum_kids, List.length_map]
  rw [hfGo_ext _ (fun i => kiSum (ys.take i)) _ _ (fun i => by show rcSum false ((ys.map ceOf).take i) = _; rw [← List.map_take, rcSum_kids])]
theorem spA_map (ys : List Ki) : spA (rcSum false) (ys.map ceOf) = (spA kiSum ys).map ceOf := by
  unfold spA; rw [hfAt_map, List.length_map]; split
  · rfl
  · rw [List.map_take]
theorem spB_map (ys : List Ki) : spB (rcSum false) (ys.map ceOf) = (spB kiSum ys).map ceOf := by
  unfold spB; rw [hfAt_map, List.length_map]; split
  · rfl
  · rw [List.map_drop]
theorem rcSum_leafF : rcSum true = lfSum := funext rcSum_leaf
theorem rc_split (leaf : Bool) (xs : List Ce) (i : Nat) : rcSum leaf (xs.take i) + rcSum leaf (xs.drop i) = rcSum leaf xs := by
  unfold rcSum
  rw [← List.sum_append, ← List.map_append, List.take_append_drop]
theorem SliceAt.take {α : Type} {w : World} {A : Option Addr} {k : Nat} {enc : α → List Value} {xs : List α} (h : SliceAt w A k enc xs) (i : Nat) : SliceAt w A k enc (xs.take i) := by
  rcases h with h | ⟨b, off, hA, hc⟩
  · subst h; exact .inl (by simp)
  · refine .inr ⟨b, off, hA, fun j x hx => hc j x ?_⟩
    rw [List.getElem?_take] at hx
    split at hx
    · exact hx
    · cases hx
theorem SliceAt.dropAt {α : Type} {w : World} {a off k : Nat} {enc : α → List Value} {xs : List α} (hc : ∀ i x, xs[i]? = some x → ∀ j u, (enc x)[j]? = some u → w.cell? ⟨a, off + i * k + j, none⟩ = some u) (i : Nat) : SliceAt w (some ⟨a, off + i * k, none⟩) k enc (xs.drop i) := by
  refine .inr ⟨a, off + i * k, rfl, fun j x hx t u hu => ?_⟩
  rw [List.getElem?_drop] at hx
  have := hc (i + j) x hx t u hu
  rw [Nat.add_mul] at this
  rw [show off + i * k + j * k + t = off + (i * k + j * k) + t by omega]
  exact this
theorem results_ctc {fn : Func} {p u q : Tmp} {ty ty2 : TypeId} (h : fn.results = #[.cell p ty, .tmp u, .cell q ty2]) (tmps : Array Value) (P : Program) (w : World) :
    (results fn tmps).run P w =
      ((asAddr (tmps.getD p undef)).run P w).andThen fun a w₁ => ((loadVar ty a).run P w₁).andThen fun v w₂ => ((asAddr (tmps.getD q undef)).run P w₂).andThen fun a' w₃ => ((loadVar ty2 a').run P w₃).andThen fun v' w₄ => .ok (.tuple #[v, tmps.getD u undef, v']) w₄ := by
  simp only [results, h]
  simp [Sem.run_bind, Result.andThen]
theorem results_c_t_c {P : Program} {fn : Func} {p u q : Tmp} {ty ty2 : TypeId} (h : fn.results = #[.cell p ty, .tmp u, .cell q ty2]) (tmps : Array Value) (w : World) (g g2 : Nat) (t t2 : TypeId) (cs cs2 : Array Value) (fr fr2 : Nat × Nat) (d d2 : TypeDesc)
    (hp : tmps.getD p undef = .pointer (some ⟨g, 0, none⟩)) (hg : w.heap[g]? = some (.cells cs t fr))
    (hu : P.underlying ty = some d) (hd : (match d with | .struct _ | .array _ _ => true | _ => false) = true) (hi : (P.info? ty).map (·.size) = some cs.size)
    (hp2 : tmps.getD q undef = .pointer (some ⟨g2, 0, none⟩)) (hg2 : w.heap[g2]? = some (.cells cs2 t2 fr2))
    (hu2 : P.underlying ty2 = some d2) (hd2 : (match d2 with | .struct _ | .array _ _ => true | _ => false) = true) (hi2 : (P.info? ty2).map (·.size) = some cs2.size) :
    (results fn tmps).run P w = .ok (.tuple #[.agg cs, tmps.getD u undef, .agg cs2]) w := by
  rw [results_ctc h, hp, hp2]
  simp [asAddr, Result.andThen, run_loadVar_row w g t ty cs fr d hg hu hd hi, run_loadVar_row w g2 t2 ty2 cs2 fr2 d2 hg2 hu2 hd2 hi2]
/-- Split's blocks: the node g, its two results, its two halves -/
structure SpW (w U : World) (g ba bb : Nat) (N R1 R2 PA PB : Array Value) : Prop where
  gr : Gr w U
  n : U.heap[g]? = some (.cells N 27 (0, 0))
  r1 : U.heap[g + 1]? = some (.cells R1 27 (0, 0))
  r2 : U.heap[g + 1 + 1]? = some (.cells R2 27 (0, 0))
  a : U.heap[ba]? = some (.cells PA 27 (0, 0))
  b : U.heap[bb]? = some (.cells PB 27 (0, 0))
  la : g + 2 < ba
  lb : g + 2 < bb
  ne : ba ≠ bb
  hg : w.heap.size = g
section
variable {w U U' : World} {g ba bb : Nat} {N R1 R2 PA PB : Array Value}
theorem SpW.step (h : SpW w U g ba bb N R1 R2 PA PB) (hg : Gr U U') : SpW w U' g ba bb N R1 R2 PA PB :=
  ⟨h.gr.trans hg, (hg.block (lt_of_row h.n)).trans h.n, (hg.block (lt_of_row h.r1)).trans h.r1, (hg.block (lt_of_row h.r2)).trans h.r2, (hg.block (lt_of_row h.a)).trans h.a, (hg.block (lt_of_row h.b)).trans h.b, h.la, h.lb, h.ne, h.hg⟩
end
def set3 (U : World) (b : Nat) (u0 u1 u2 : Value) : World := ((U.setCell ⟨b, 0, none⟩ u0).setCell ⟨b, 1, none⟩ u1).setCell ⟨b, 2, none⟩ u2
theorem set3_other (U : World) (b k : Nat) (u0 u1 u2 : Value) (h : k ≠ b) : (((U.setCell ⟨b, 0, none⟩ u0).setCell ⟨b, 1, none⟩ u1).setCell ⟨b, 2, none⟩ u2).heap[k]? = U.heap[k]? := by
  rw [heap_setCell_other _ _ _ _ h, heap_setCell_other _ _ _ _ h, heap_setCell_other _ _ _ _ h]
theorem set3_same {U : World} {b : Nat} {a0 a1 a2 : Value} {t : TypeId} (u0 u1 u2 : Value) (h : U.heap[b]? = some (.cells #[a0, a1, a2] t (0, 0))) : (((U.setCell ⟨b, 0, none⟩ u0).setCell ⟨b, 1, none⟩ u1).setCell ⟨b, 2, none⟩ u2).heap[b]? = some (.cells #[u0, u1, u2] t (0, 0)) :=
  heap_setCell_same _ _ 2 _ _ _ (heap_setCell_same _ _ 1 _ _ _ (heap_setCell_same _ _ 0 _ _ _ h))
theorem set3_gr {w U : World} (b : Nat) (u0 u1 u2 : Value) (h : Gr w U) (hb : w.heap.size ≤ b) : Gr w (((U.setCell ⟨b, 0, none⟩ u0).setCell ⟨b, 1, none⟩ u1).setCell ⟨b, 2, none⟩ u2) :=
  ((((Ch.refl b U).setCell 0 _).setCell 1 _).setCell 2 _).gr h hb
section
variable {w U : World} {g ba bb : Nat} {N PA PB : Array Value} {a0 a1 a2 b0 b1 b2 : Value}
theorem SpW.end1 (h : SpW w U g ba bb N #[a0, a1, a2] #[b0, b1, b2] PA PB) (u0 u1 u2 v0 v1 v2 : Value) :
    Gr w ((((((U.setCell ⟨g + 1, 0, none⟩ u0).setCell ⟨g + 1, 1, none⟩ u1).setCell ⟨g + 1, 2, none⟩ u2).setCell ⟨g + 1 + 1, 0, none⟩ v0).setCell ⟨g + 1 + 1, 1, none⟩ v1).setCell ⟨g + 1 + 1, 2, none⟩ v2).drew ∧
    ((((((U.setCell ⟨g + 1, 0, none⟩ u0).setCell ⟨g + 1, 1, none⟩ u1).setCell ⟨g + 1, 2, none⟩ u2).setCell ⟨g + 1 + 1, 0, none⟩ v0).setCell ⟨g + 1 + 1, 1, none⟩ v1).setCell ⟨g + 1 + 1, 2, none⟩ v2).drew.heap[g + 1]? = some (.cells #[u0, u1, u2] 27 (0, 0)) ∧
    ((((((U.setCell ⟨g + 1, 0, none⟩ u0).setCell ⟨g + 1, 1, none⟩ u1).setCell ⟨g + 1, 2, none⟩ u2).setCell ⟨g + 1 + 1, 0, none⟩ v0).setCell ⟨g + 1 + 1, 1, none⟩ v1).setCell ⟨g + 1 + 1, 2, none⟩ v2).drew.heap[g + 1 + 1]? = some (.cells #[v0, v1, v2] 27 (0, 0)) := by
  have hg := h.hg
  have k1 := set3_gr (g + 1) u0 u1 u2 h.gr (by omega)
  have k2 := set3_same u0 u1 u2 h.r1
  have k3 := (set3_other U (g + 1) (g + 1 + 1) u0 u1 u2 (by omega)).trans h.r2
  clear h
  generalize ((U.setCell ⟨g + 1, 0, none⟩ u0).setCell ⟨g + 1, 1, none⟩ u1).setCell ⟨g + 1, 2, none⟩ u2 = X at *
  have k4 := set3_gr (g + 1 + 1) v0 v1 v2 k1 (by omega)
  have k5 := (set3_other X (g + 1 + 1) (g + 1) v0 v1 v2 (by omega)).trans k2
  have k6 := set3_same v0 v1 v2 k3
  generalize ((X.setCell ⟨g + 1 + 1, 0, none⟩ v0).setCell ⟨g + 1 + 1, 1, none⟩ v1).setCell ⟨g + 1 + 1, 2, none⟩ v2 = Y at *
  exact ⟨k4.drew, k5, k6⟩
end
section
variable {w U : World} {g ba bb : Nat} {N R1 R2 PA PB : Array Value}
theorem SpW.put2 (h : SpW w U g ba bb N R1 R2 PA PB) (i : Nat) (u v : Value) : SpW w ((U.setCell ⟨ba, i, none⟩ u).setCell ⟨bb, i, none⟩ v) g ba bb N R1 R2 (PA.setIfInBounds i u) (PB.setIfInBounds i v) := by
  have h1 := h.la
  have h2 := h.lb
  have h3 := h.ne
  have h4 := h.hg
  have ho : ∀ k, k ≠ ba → k ≠ bb → ((U.setCell ⟨ba, i, none⟩ u).setCell ⟨bb, i, none⟩ v).heap[k]? = U.heap[k]? := fun k ka kb => by
    rw [heap_setCell_other _ _ _ _ kb, heap_setCell_other _ _ _ _ ka]
  refine ⟨((Ch.refl bb _).setCell i v).gr (((Ch.refl ba U).setCell i u).gr h.gr (by omega)) (by omega), (ho g (by omega) (by omega)).trans h.n, (ho _ (by omega) (by omega)).trans h.r1, (ho _ (by omega) (by omega)).trans h.r2, ?_, ?_, h1, h2, h3, h4⟩
  · rw [heap_setCell_other _ _ _ _ h3]; exact heap_setCell_same _ _ _ _ _ _ h.a
  · refine heap_setCell_same _ _ _ _ _ _ ?_
    rw [heap_setCell_other _ _ _ _ h3.symm]; exact h.b
theorem own_put2 {α : Type} {base e k : Nat} {enc : α → List Value} {A : Option Addr} {cap : Nat} {xs : List α} (h : Own U base e k enc A cap xs) (ha : ba < base) (hb : bb < base) (i : Nat) (u v : Value) : Own ((U.setCell ⟨ba, i, none⟩ u).setCell ⟨bb, i, none⟩ v) base e k enc A cap xs :=
  (h.ch ((Ch.refl ba U).setCell i u) (fun he => by have := (h.lt he).2; omega)).ch ((Ch.refl bb _).setCell i v) (fun he => by have := (h.lt he).2; omega)
end
/-- the head of a row of the call's own -/
theorem Own.head {α : Type} {w : World} {base e k : Nat} {enc : α → List Value} {A : Option Addr} {cap : Nat} {x : α} {xs : List α} (h : Own w base e k enc A cap (x :: xs)) (hk : ∀ x, (enc x).length = k) :
    ∃ q, A = some ⟨q, 0, none⟩ ∧ base ≤ q ∧ q < w.heap.size ∧ ∀ i u, (enc x)[i]? = some u → w.cell? ⟨q, i, none⟩ = some u := by
  have hs := h.slice hk
  obtain ⟨h1, h2⟩ := h
  rcases h2 with ⟨hv, h0⟩ | ⟨q, c, cur, hv, hb, hh, hn, hc, hx⟩
  · simp at h0
  · simp only [Value.slice.injEq] at hv
    obtain ⟨rfl, _, rfl⟩ := hv
    refine ⟨q, rfl, hb, lt_of_row hh, fun i u hu => ?_⟩
    rcases hs with h0 | ⟨a, off, ha, hcell⟩
    · cases h0
    · cases ha
      have := hcell 0 x rfl i u hu
      simpa using this
theorem own_end {α : Type} {U : World} {g base e k : Nat} {enc : α → List Value} {A : Option Addr} {cap : Nat} {xs : List α} (h : Own U base e k enc A cap xs) (hb : g + 2 < base) (u0 u1 u2 v0 v1 v2 : Value) :
    Own ((((((U.setCell ⟨g + 1, 0, none⟩ u0).setCell ⟨g + 1, 1, none⟩ u1).setCell ⟨g + 1, 2, none⟩ u2).setCell ⟨g + 1 + 1, 0, none⟩ v0).setCell ⟨g + 1 + 1, 1, none⟩ v1).setCell ⟨g + 1 + 1, 2, none⟩ v2).drew base e k enc A cap xs := by
  have k1 := h.ch ((((Ch.refl (g + 1) U).setCell 0 u0).setCell 1 u1).setCell 2 u2) (fun he => by have := (h.lt he).2; omega)
  generalize ((U.setCell ⟨g + 1, 0, none⟩ u0).setCell ⟨g + 1, 1, none⟩ u1).setCell ⟨g + 1, 2, none⟩ u2 = X at *
  exact (k1.ch ((((Ch.refl (g + 1 + 1) X).setCell 0 v0).setCell 1 v1).setCell 2 v2) (fun he => by have := (k1.lt he).2; omega)).gr (Gr.refl _).drew
theorem Own.set0 {α : Type} {w : World} {base e k q : Nat} {enc : α → List Value} {cap : Nat} {x x' : α} {xs : List α} (h : Own w base e k enc (some ⟨q, 0, none⟩) cap (x :: xs)) (u : Value) (he : (enc x).set 0 u = enc x') (hk : ∀ x, (enc x).length = k) (hk0 : 0 < k) :
    Own (w.setCell ⟨q, 0, none⟩ u) base e k enc (some ⟨q, 0, none⟩) cap (x' :: xs) := by
  obtain ⟨h1, h2⟩ := h
  rcases h2 with ⟨hv, h0⟩ | ⟨q', c, cur, hv, hb, hh, hn, hc, hz, hx⟩
  · simp at h0
  · simp only [Value.slice.injEq] at hv
    obtain ⟨hq, _, rfl⟩ := hv
    cases hq
    have e1 : (x' :: xs).flatMap enc = ((x :: xs).flatMap enc).set 0 u := by
      rw [List.flatMap_cons, List.flatMap_cons, List.set_append_left _ _ (by rw [hk]; exact hk0), he]
    refine ⟨by rw [e1, List.length_set]; exact h1, .inr ⟨q, _, _, rfl, hb, heap_setCell_same _ _ 0 _ _ _ hh, hn, hc, by rw [Array.size_setIfInBounds]; exact hz, ?_⟩⟩
    rw [e1, ← hx, Array.toList_setIfInBounds, List.take_set]
    rfl
/-- the row's block is a plain one -/
theorem Own.row {α : Type} {w : World} {base e k q : Nat} {enc : α → List Value} {cap : Nat} {x : α} {xs : List α} (h : Own w base e k enc (some ⟨q, 0, none⟩) cap (x :: xs)) : ∃ cur, w.heap[q]? = some (.cells cur e (0, 0)) := by
  obtain ⟨h1, h2⟩ := h
  rcases h2 with ⟨hv, h0⟩ | ⟨q', c, cur, hv, hb, hh, hn, hc, hz, hx⟩
  · simp at h0
  · simp only [Value.slice.injEq] at hv
    obtain ⟨hq, _, rfl⟩ := hv
    cases hq
    exact ⟨cur, hh⟩
theorem SpW.far {w U U' : World} {g ba bb q : Nat} {N R1 R2 PA PB : Array Value} (h : SpW w U g ba bb N R1 R2 PA PB) (hc : Ch q U U') (hq : g + 2 < q) (ha : ba < q) (hb : bb < q) : SpW w U' g ba bb N R1 R2 PA PB := by
  have hg := h.hg
  exact ⟨hc.gr h.gr (by omega), (hc.block _ (lt_of_row h.n) (by omega)).trans h.n, (hc.block _ (lt_of_row h.r1) (by omega)).trans h.r1, (hc.block _ (lt_of_row h.r2) (by omega)).trans h.r2, (hc.block _ (lt_of_row h.a) (by omega)).trans h.a, (hc.block _ (lt_of_row h.b) (by omega)).trans h.b, h.la, h.lb, h.ne, hg⟩
theorem Own.setMid {α : Type} {w : World} {base e k q : Nat} {enc : α → List Value} {cap : Nat} {x x' : α} {xs ys : List α} (h : Own w base e k enc (some ⟨q, 0, none⟩) cap (xs ++ x :: ys)) (u : Value) (he : (enc x).set 0 u = enc x') (hk : ∀ x, (enc x).length = k) (hk0 : 0 < k) :
    Own (w.setCell ⟨q, xs.length * k, none⟩ u) base e k enc (some ⟨q, 0, none⟩) cap (xs ++ x' :: ys) := by
  obtain ⟨h1, h2⟩ := h
  rcases h2 with ⟨hv, h0⟩ | ⟨q', c, cur, hv, hb, hh, hn, hc, hz, hx⟩
  · simp at h0
  · simp only [Value.slice.injEq] at hv
    obtain ⟨hq, _, rfl⟩ := hv
    cases hq
    have e1 : (xs ++ x' :: ys).flatMap enc = ((xs ++ x :: ys).flatMap enc).set (xs.length * k) u := by
      rw [List.flatMap_append, List.flatMap_append, List.set_append_right _ _ (by rw [cells_len k hk]; exact Nat.le_refl _), cells_len k hk, Nat.sub_self, List.flatMap_cons, List.flatMap_cons, List.set_append_left _ _ (by rw [hk]; exact hk0), he]
    have el : (xs ++ x' :: ys).length = (xs ++ x :: ys).length := by simp
    refine ⟨by rw [e1, List.length_set, el]; exact h1, .inr ⟨q, _, _, rfl, hb, heap_setCell_same _ _ _ _ _ _ hh, by rw [el]; exact hn, hc, by rw [Array.size_setIfInBounds]; exact hz, ?_⟩⟩
    rw [e1, ← hx, Array.toList_setIfInBounds, List.take_set, el]
theorem Own.some {α : Type} {w : World} {base e k : Nat} {enc : α → List Value} {A : Option Addr} {cap : Nat} {x : α} {xs ys : List α} (h : Own w base e k enc A cap (xs ++ x :: ys)) (hk : ∀ x, (enc x).length = k) : ∃ q, A = .some ⟨q, 0, none⟩ ∧ base ≤ q ∧ q < w.heap.size ∧ (∀ u, (enc x)[0]? = .some u → w.cell? ⟨q, xs.length * k, none⟩ = .some u) ∧ w.frozen? ⟨q, xs.length * k, none⟩ = false := by
  have hs := h.slice hk
  obtain ⟨h1, h2⟩ := h
  rcases h2 with ⟨hv, h0⟩ | ⟨q', c, cur, hv, hb, hh, hn, hc, hz, hx⟩
  · simp at h0
  · simp only [Value.slice.injEq] at hv
    obtain ⟨rfl, _, rfl⟩ := hv
    refine ⟨q', rfl, hb, lt_of_row hh, fun u hu => ?_, frozen_of_row _ _ _ _ _ hh⟩
    rcases hs with h0 | ⟨a, off, ha, hcell⟩
    · simp at h0
    · cases ha
      have := hcell xs.length x (by simp) 0 u hu
      simpa using this
/-- the document's Split's blocks: the node g, its two results -/
structure SqW (w U : World) (g : Nat) (N R1 R2 : Array Value) : Prop where
  gr : Gr w U
  n : U.heap[g]? = some (.cells N 32 (0, 0))
  r1 : U.heap[g + 1]? = some (.cells R1 32 (0, 0))
  r2 : U.heap[g + 1 + 1]? = some (.cells R2 32 (0, 0))
  hg : w.heap.size = g
theorem SqW.step {w U U' : World} {g : Nat} {N R1 R2 : Array Value} (h : SqW w U g N R1 R2) (hg : Gr U U') : SqW w U' g N R1 R2 :=
  ⟨h.gr.trans hg, (hg.block (lt_of_row h.n)).trans h.n, (hg.block (lt_of_row h.r1)).trans h.r1, (hg.block (lt_of_row h.r2)).trans h.r2, h.hg⟩
theorem SqW.far {w U U' : World} {g q : Nat} {N R1 R2 : Array Value} (h : SqW w U g N R1 R2) (hc : Ch q U U') (hq : g + 2 < q) : SqW w U' g N R1 R2 := by
  have hg := h.hg
  exact ⟨hc.gr h.gr (by omega), (hc.block _ (lt_of_row h.n) (by omega)).trans h.n, (hc.block _ (lt_of_row h.r1) (by omega)).trans h.r1, (hc.block _ (lt_of_row h.r2) (by omega)).trans h.r2, hg⟩
theorem set2_other (U : World) (b k : Nat) (u0 u1 : Value) (h : k ≠ b) : ((U.setCell ⟨b, 0, none⟩ u0).setCell ⟨b, 1, none⟩ u1).heap[k]? = U.heap[k]? := by
  rw [heap_setCell_other _ _ _ _ h, heap_setCell_other _ _ _ _ h]
theorem set2_same {U : World} {b : Nat} {a0 a1 : Value} {t : TypeId} (u0 u1 : Value) (h : U.heap[b]? = some (.cells #[a0, a1] t (0, 0))) : ((U.setCell ⟨b, 0, none⟩ u0).setCell ⟨b, 1, none⟩ u1).heap[b]? = some (.cells #[u0, u1] t (0, 0)) :=
  heap_setCell_same _ _ 1 _ _ _ (heap_setCell_same _ _ 0 _ _ _ h)
theorem set2_gr {w U : World} (b : Nat) (u0 u1 : Value) (h : Gr w U) (hb : w.heap.size ≤ b) : Gr w ((U.setCell ⟨b, 0, none⟩ u0).setCell ⟨b, 1, none⟩ u1) :=
  (((Ch.refl b U).setCell 0 _).setCell 1 _).gr h hb
theorem SqW.end1 {w U : World} {g : Nat} {N : Array Value} {a0 a1 b0 b1 : Value} (h : SqW w U g N #[a0, a1] #[b0, b1]) (u0 u1 v0 v1 : Value) :
    Gr w ((((U.setCell ⟨g + 1, 0, none⟩ u0).setCell ⟨g + 1, 1, none⟩ u1).setCell ⟨g + 1 + 1, 0, none⟩ v0).setCell ⟨g + 1 + 1, 1, none⟩ v1).drew ∧
    ((((U.setCell ⟨g + 1, 0, none⟩ u0).setCell ⟨g + 1, 1, none⟩ u1).setCell ⟨g + 1 + 1, 0, none⟩ v0).setCell ⟨g + 1 + 1, 1, none⟩ v1).drew.heap[g + 1]? = some (.cells #[u0, u1] 32 (0, 0)) ∧
    ((((U.setCell ⟨g + 1, 0, none⟩ u0).setCell ⟨g + 1, 1, none⟩ u1).setCell ⟨g + 1 + 1, 0, none⟩ v0).setCell ⟨g + 1 + 1, 1, none⟩ v1).drew.heap[g + 1 + 1]? = some (.cells #[v0, v1] 32 (0, 0)) := by
  have hg := h.hg
  have k1 := set2_gr (g + 1) u0 u1 h.gr (by omega)
  have k2 := set2_same u0 u1 h.r1
  have k3 := (set2_other U (g + 1) (g + 1 + 1) u0 u1 (by omega)).trans h.r2
  clear h
  generalize (U.setCell ⟨g + 1, 0, none⟩ u0).setCell ⟨g + 1, 1, none⟩ u1 = X at *
  have k4 := set2_gr (g + 1 + 1) v0 v1 k1 (by omega)
  have k5 := (set2_other X (g + 1 + 1) (g + 1) v0 v1 (by omega)).trans k2
  have k6 := set2_same v0 v1 k3
  generalize (X.setCell ⟨g + 1 + 1, 0, none⟩ v0).setCell ⟨g + 1 + 1, 1, none⟩ v1 = Y at *
  exact ⟨k4.drew, k5, k6⟩
theorem own_end2 {α : Type} {U : World} {g base e k : Nat} {enc : α → List Value} {A : Option Addr} {cap : Nat} {xs : List α} (h : Own U base e k enc A cap xs) (hb : g + 2 < base) (u0 u1 v0 v1 : Value) :
    Own ((((U.setCell ⟨g + 1, 0, none⟩ u0).setCell ⟨g + 1, 1, none⟩ u1).setCell ⟨g + 1 + 1, 0, none⟩ v0).setCell ⟨g + 1 + 1, 1, none⟩ v1).drew base e k enc A cap xs := by
  have k1 := h.ch (((Ch.refl (g + 1) U).setCell 0 u0).setCell 1 u1) (fun he => by have := (h.lt he).2; omega)
  generalize (U.setCell ⟨g + 1, 0, none⟩ u0).setCell ⟨g + 1, 1, none⟩ u1 = X at *
  exact (k1.ch (((Ch.refl (g + 1 + 1) X).setCell 0 v0).setCell 1 v1) (fun he => by have := (k1.lt he).2; omega)).gr (Gr.refl _).drew
/-- the document's Split's blocks, its halves too -/
structure SqX (w U : World) (g ba bb : Nat) (N R1 R2 PA PB : Array Value) : Prop where
  q : SqW w U g N R1 R2
  a : U.heap[ba]? = some (.cells PA 32 (0, 0))
  b : U.heap[bb]? = some (.cells PB 32 (0, 0))
  la : g + 2 < ba
  lb : g + 2 < bb
  ne : ba ≠ bb
section
variable {w U U' : World} {g ba bb : Nat} {N R1 R2 PA PB : Array Value}
theorem SqX.step (h : SqX w U g ba bb N R1 R2 PA PB) (hg : Gr U U') : SqX w U' g ba bb N R1 R2 PA PB :=
  ⟨h.q.step hg, (hg.block (lt_of_row h.a)).trans h.a, (hg.block (lt_of_row h.b)).trans h.b, h.la, h.lb, h.ne⟩
theorem SqX.far {q : Nat} (h : SqX w U g ba bb N R1 R2 PA PB) (hc : Ch q U U') (hq : g + 2 < q) (ha : ba ≠ q) (hb : bb ≠ q) : SqX w U' g ba bb N R1 R2 PA PB :=
  ⟨h.q.far hc hq, (hc.block _ (lt_of_row h.a) ha).trans h.a, (hc.block _ (lt_of_row h.b) hb).trans h.b, h.la, h.lb, h.ne⟩
theorem SqX.putA (h : SqX w U g ba bb N R1 R2 PA PB) (i : Nat) (u : Value) : SqX w (U.setCell ⟨ba, i, none⟩ u) g ba bb N R1 R2 (PA.setIfInBounds i u) PB :=
  ⟨h.q.far ((Ch.refl ba U).setCell i u) h.la, heap_setCell_same _ _ _ _ _ _ h.a, (heap_setCell_other _ _ _ _ h.ne.symm).trans h.b, h.la, h.lb, h.ne⟩
theorem SqX.putB (h : SqX w U g ba bb N R1 R2 PA PB) (i : Nat) (u : Value) : SqX w (U.setCell ⟨bb, i, none⟩ u) g ba bb N R1 R2 PA (PB.setIfInBounds i u) :=
  ⟨h.q.far ((Ch.refl bb U).setCell i u) h.lb, (heap_setCell_other _ _ _ _ h.ne).trans h.a, heap_setCell_same _ _ _ _ _ _ h.b, h.la, h.lb, h.ne⟩
end
theorem SqX.new {w V : World} {g : Nat} {leaf : Bool} {N R1 R2 : Array Value} (h : SqW w V g N R1 R2) :
    SqX w ((V.alloc (.cells #[.bool leaf, .slice none 0 0] 32)).alloc (.cells #[.bool leaf, .slice none 0 0] 32)).drew g V.heap.size (V.heap.size + 1) N R1 R2 #[.bool leaf, .slice none 0 0] #[.bool leaf, .slice none 0 0] ∧
    SqX w ((V.alloc (.cells #[.bool leaf, .slice none 0 0] 32)).alloc (.cells #[.bool leaf, .slice none 0 0] 32)).drew g (V.heap.size + 1) V.heap.size N R1 R2 #[.bool leaf, .slice none 0 0] #[.bool leaf, .slice none 0 0] := by
  have hl := lt_of_row h.r2
  have hG : Gr V ((V.alloc (.cells #[.bool leaf, .slice none 0 0] 32)).alloc (.cells #[.bool leaf, .slice none 0 0] 32)).drew := (((Gr.refl V).alloc _).alloc _).drew
  have e1 := heap_alloc_last (V.alloc (.cells #[.bool leaf, .slice none 0 0] 32)) (.cells #[.bool leaf, .slice none 0 0] 32)
  rw [alloc_size] at e1
  have e0 := (((Gr.refl (V.alloc (.cells #[.bool leaf, .slice none 0 0] 32))).alloc (.cells #[.bool leaf, .slice none 0 0] 32)).block (k := V.heap.size) (by rw [alloc_size]; omega)).trans (heap_alloc_last V (.cells #[.bool leaf, .slice none 0 0] 32))
  exact ⟨⟨h.step hG, e0, e1, by omega, by omega, by omega⟩, ⟨h.step hG, e1, e0, by omega, by omega, by omega⟩⟩
theorem SliceAt.news {α : Type} {w : World} {ad : Addr} {k : Nat} {enc : α → List Value} {xs : List α} (h : SliceAt w (some ad) k enc xs) (hk : ∀ x, (enc x).length = k) : ∀ j u, (xs.flatMap enc)[j]? = some u → w.cell? (ad.add j) = some u := by
  rcases h with h | ⟨a, off, ha, hc⟩
  · intro j u hu; rw [h] at hu; simp at hu
  · cases ha; exact slice_news hk hc
end Go.Proofs.Ytmpmfgkabjedpaa
