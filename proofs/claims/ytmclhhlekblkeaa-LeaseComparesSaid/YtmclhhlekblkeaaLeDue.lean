/- Layer 23: a table's Due. -/
import Derived.Maps.AppendAt
import Derived.Laws.EntriesVeiled
import Derived.Test.YtmclhhlekblkeaaLeAll
import Derived.Test.YtmclhhlekblkeaaLeSl
namespace Go.Proofs.Ytmclhhlekblkeaa
open Go.RowKit Go.Shelf
set_option linter.unusedVariables false
set_option linter.unusedSimpArgs false
set_option maxRecDepth 100000
set_option maxHeartbeats 2000000
attribute [local go_sem] Oper.semAt_some
abbrev Ky := ByteArray × Nat
def kyCell (x : Ky) : List Value := [.string x.1, .int .u64 (x.2 : Nat)]
def enKey (x : En) : Ky := (x.1, x.2.1)
/-- those whose time has come -/
def dueL (zs : List En) (now : Nat) : List En := zs.filter (fun x => decide (x.2.2 ≤ now))
theorem dueL_hit (pre : List En) {x : En} {now : Nat} (h : x.2.2 ≤ now) : dueL (pre ++ [x]) now = dueL pre now ++ [x] := by simp [dueL, h]
theorem dueL_miss (pre : List En) {x : En} {now : Nat} (h : ¬ x.2.2 ≤ now) : dueL (pre ++ [x]) now = dueL pre now := by simp [dueL, h]
def dueC (zs : List En) (now : Nat) : List Value := (dueL zs now).flatMap (fun x => kyCell (enKey x))
theorem dueC_hit (pre : List En) {x : En} {now : Nat} (h : x.2.2 ≤ now) : dueC (pre ++ [x]) now = dueC pre now ++ [.string x.1, .int .u64 (x.2.1 : Nat)] := by
  unfold dueC
  rw [dueL_hit pre h, List.flatMap_append]
  rfl
theorem dueC_miss (pre : List En) {x : En} {now : Nat} (h : ¬ x.2.2 ≤ now) : dueC (pre ++ [x]) now = dueC pre now := by
  unfold dueC
  rw [dueL_miss pre h]
theorem le_info_key : (Try.prog.info? 24).map (fun i => (i.zero, i.size, i.bytes)) = some (some (.agg #[.string { data := #[] }, .int .u64 0]), 2, 24) := by kernel_rfl
/-- a block of cells lies on -/
theorem row_own {β : Type} (B : Nat) (t : TypeId) (cs : Array Value) : Go.Own (fun (_ : β) W => W.heap[B]? = some (.cells cs t (0, 0))) := fun s X Y row hs hg hrow =>
  (hg.block B (Array.getElem?_eq_some_iff.1 hs).1 (fun e' => by obtain ⟨o, ho, hc⟩ := hrow B e'.symm; rw [hs] at ho; cases ho; cases hc)).trans hs
theorem rowA {W : World} {B : Nat} {o : Obj} (h : W.heap[B]? = some o) (o2 : Obj) : (W.alloc o2).heap[B]? = some o := (((Gr.refl W).alloc o2).block (Array.getElem?_eq_some_iff.1 h).1).trans h
theorem le_cell {w : World} {g : Nat} {t : TypeId} {cs : Array Value} (h : w.heap[g]? = some (.cells cs t (0, 0))) (i : Nat) (v : Value) (hv : cs[i]? = some v) : w.cell? ⟨g, i, none⟩ = some v := by
  rw [cell_of_row w g i cs t (0, 0) h]; exact hv
theorem lt_row {w : World} {b : Nat} {o : Obj} (h : w.heap[b]? = some o) : b < w.heap.size := (Array.getElem?_eq_some_iff.1 h).1
theorem row_not_own {W : World} {B : Nat} {t e : TypeId} {cs : Array Value} (h : W.heap[B]? = some (.cells cs t (0, 0))) (hte : t ≠ e) {base size k : Nat} {v : Value} {xs : List Value} (hr : W.ownsRow base e size v k xs) : some B ≠ v.ownBlock := by
  rcases hr.2 with ⟨rfl, _⟩ | ⟨g, cap, cur, rfl, _, hgb, _⟩
  · simp [Value.ownBlock]
  · intro e'
    obtain rfl : B = g := by simpa [Value.ownBlock] using e'
    rw [h] at hgb
    cases hgb
    exact hte rfl
theorem row_appended {W w1 : World} {ba bb : Nat} {t e : TypeId} {cs : Array Value} {tmp : Obj} {u : Value} (h : W.heap[ba]? = some (.cells cs t (0, 0))) (hte : t ≠ e) {base size k : Nat} {v : Value} {xs : List Value} (hr : W.ownsRow base e size v k xs) (hg : (W.alloc tmp).grownBy w1 v.ownBlock) (hne : ba ≠ bb) : (w1.setCell ⟨bb, 0, none⟩ u).heap[ba]? = some (.cells cs t (0, 0)) := by
  have h2 := rowA h tmp
  exact (heap_setCell_other _ _ _ _ (by show ba ≠ bb; exact hne)).trans ((hg.block ba (Array.getElem?_eq_some_iff.1 h2).1 (row_not_own h hte hr)).trans h2)
theorem results_t_c {P : Program} {fn : Func} {p u : Tmp} {ty : TypeId} (h : fn.results = #[.tmp u, .cell p ty]) (tmps : Array Value) (w : World) (g : Nat) (t : TypeId) (cs : Array Value) (fr : Nat × Nat) (d : TypeDesc)
    (hp : tmps.getD p undef = .pointer (some ⟨g, 0, none⟩)) (hg : w.heap[g]? = some (.cells cs t fr))
    (hu : P.underlying ty = some d) (hd : (match d with | .struct _ | .array _ _ => true | _ => false) = true) (hi : (P.info? ty).map (·.size) = some cs.size) :
    (results fn tmps).run P w = .ok (.tuple #[tmps.getD u undef, .agg cs]) w := by
  have h2 : (results fn tmps).run P w = ((asAddr (tmps.getD p undef)).run P w).andThen fun a w₁ => ((loadVar ty a).run P w₁).andThen fun v w₂ => .ok (.tuple #[tmps.getD u undef, v]) w₂ := by
    simp only [results, h]
    simp [Sem.run_bind, Result.andThen]
  rw [h2, hp]
  simp [asAddr, Result.andThen, run_loadVar_row w g t ty cs fr d hg hu hd hi]
theorem en_drop_all {w : World} {A : Option Addr} {zs : List En} {k : Nat} (h : zs.length ≤ k) : SliceAt w A 3 enCell (zs.drop k) := .inl (List.drop_eq_nil_of_le h)
theorem en_drop_at {w : World} {A : Option Addr} {zs : List En} (k : Nat) (h : SliceAt w A 3 enCell zs) : SliceAt w (Option.map (fun x => x.add (k * 3)) A) 3 enCell (zs.drop k) := by
  rcases h with rfl | ⟨b, off, rfl, hc⟩
  · exact .inl (by simp)
  · refine .inr ⟨b, off + k * 3, ?_, fun j x hx t u hu => ?_⟩
    · show some (Addr.add ⟨b, off, none⟩ (k * 3)) = _
      unfold Addr.add
      split <;> simp_all
    · rw [List.getElem?_drop] at hx
      have := hc (k + j) x hx t u hu
      rw [Nat.add_mul] at this
      rw [show off + k * 3 + j * 3 + t = off + (k * 3 + j * 3) + t by omega]
      exact this
theorem en_cloneN (A : Option Addr) (n cap : Nat) (xs : List En) (hn : n = xs.length) (hcap : xs.length ≤ cap) (hcm : cap ≤ maxLen) (hl : xs.length ≤ 4000) (w : World) (hs : SliceAt w A 3 enCell xs) :
    Calls Try.prog 43 #[.slice A n cap] w fun r w' => ∃ A' cap', r = .returned (.slice A' n cap') ∧ Own w' w.heap.size 89 3 enCell A' cap' xs ∧ Gr w w' := by
  have h := en_clone A n cap xs hn hcap hcm hl w hs
  rw [← hn] at h
  exact h
theorem dueL_le (zs : List En) (now : Nat) : (dueL zs now).length ≤ zs.length := List.length_filter_le _ _
theorem dueC_eq (zs : List En) (now : Nat) : dueC zs now = ((dueL zs now).map enKey).flatMap kyCell := by
  unfold dueC
  rw [List.flatMap_map]
theorem Own.lower {α : Type} {w : World} {b b2 e k cap : Nat} {enc : α → List Value} {A : Option Addr} {xs : List α} (h : Own w b e k enc A cap xs) (hb : b2 ≤ b) : Own w b2 e k enc A cap xs := by
  obtain ⟨h1, h2⟩ := h
  refine ⟨h1, ?_⟩
  rcases h2 with h2 | ⟨g, c, cur, hv, hbg, hx⟩
  · exact .inl h2
  · exact .inr ⟨g, c, cur, hv, Nat.le_trans hb hbg, hx⟩
theorem due_end {w W v2 : World} {D : Nat} {u S f : Value} {Av A2 : Option Addr} {cv c2 : Nat} {ks : List Ky} {es : List En} (hB : Below w.heap.size w W) (hg2 : Gr W v2)
    (r0 : W.heap[w.heap.size]? = some (.cells #[f, u] 51 (0, 0))) (r2 : W.heap[w.heap.size + 1 + 1]? = some (.cells #[.nilFunc, .slice none 0 0] 51 (0, 0))) (hK : W.heap[D]? = some (.deferred (some []))) (hD : w.heap.size + 1 + 1 < D)
    (ho1 : Own W w.heap.size 24 2 kyCell Av cv ks) (ho2 : Own v2 W.heap.size 89 3 enCell A2 c2 es) :
    (((v2.setCell ⟨w.heap.size, 1, none⟩ S).setCell ⟨w.heap.size + 1 + 1, 0, none⟩ f).setCell ⟨w.heap.size + 1 + 1, 1, none⟩ S).drew.heap[D]? = some (.deferred (some [])) ∧
    ((((v2.setCell ⟨w.heap.size, 1, none⟩ S).setCell ⟨w.heap.size + 1 + 1, 0, none⟩ f).setCell ⟨w.heap.size + 1 + 1, 1, none⟩ S).drew.putObj D (.deferred none)).heap[w.heap.size + 1 + 1]? = some (.cells #[f, S] 51 (0, 0)) ∧
    Own ((((v2.setCell ⟨w.heap.size, 1, none⟩ S).setCell ⟨w.heap.size + 1 + 1, 0, none⟩ f).setCell ⟨w.heap.size + 1 + 1, 1, none⟩ S).drew.putObj D (.deferred none)) w.heap.size 24 2 kyCell Av cv ks ∧
    Own ((((v2.setCell ⟨w.heap.size, 1, none⟩ S).setCell ⟨w.heap.size + 1 + 1, 0, none⟩ f).setCell ⟨w.heap.size + 1 + 1, 1, none⟩ S).drew.putObj D (.deferred none)) w.heap.size 89 3 enCell A2 c2 es ∧
    Gr w ((((v2.setCell ⟨w.heap.size, 1, none⟩ S).setCell ⟨w.heap.size + 1 + 1, 0, none⟩ f).setCell ⟨w.heap.size + 1 + 1, 1, none⟩ S).drew.putObj D (.deferred none)) := by
  have l0 := lt_row r0
  have l2 := lt_row r2
  have lD := lt_row hK
  have hE : ∀ g, g ≠ w.heap.size → g ≠ w.heap.size + 1 + 1 → (((v2.setCell ⟨w.heap.size, 1, none⟩ S).setCell ⟨w.heap.size + 1 + 1, 0, none⟩ f).setCell ⟨w.heap.size + 1 + 1, 1, none⟩ S).drew.heap[g]? = v2.heap[g]? := fun g h1 h2 =>
    (heap_setCell_other _ _ _ _ (by show g ≠ w.heap.size + 1 + 1; exact h2)).trans ((heap_setCell_other _ _ _ _ (by show g ≠ w.heap.size + 1 + 1; exact h2)).trans (heap_setCell_other _ _ _ _ (by show g ≠ w.heap.size; exact h1)))
  have hKE := (hE D (by omega) (by omega)).trans ((hg2.block lD).trans hK)
  have s2 : (((v2.setCell ⟨w.heap.size, 1, none⟩ S).setCell ⟨w.heap.size + 1 + 1, 0, none⟩ f).setCell ⟨w.heap.size + 1 + 1, 1, none⟩ S).drew.heap[w.heap.size + 1 + 1]? = some (.cells #[f, S] 51 (0, 0)) :=
    heap_setCell_same _ _ 1 _ _ S (heap_setCell_same _ _ 0 _ _ f ((heap_setCell_other v2 ⟨w.heap.size, 1, none⟩ _ _ (by show w.heap.size + 1 + 1 ≠ w.heap.size; omega)).trans ((hg2.block l2).trans r2)))
  have hG : Gr w (((v2.setCell ⟨w.heap.size, 1, none⟩ S).setCell ⟨w.heap.size + 1 + 1, 0, none⟩ f).setCell ⟨w.heap.size + 1 + 1, 1, none⟩ S).drew :=
    Gr.drew ((((Ch.refl (w.heap.size + 1 + 1) _).setCell 0 f).setCell 1 S).gr (((Ch.refl w.heap.size v2).setCell 1 S).gr (Gr.trans hB hg2) (Nat.le_refl _)) (by omega))
  refine ⟨hKE, (World.putObj_heap_other (by omega)).trans s2, ?_, ?_, Below.trans hG (belowK_b (w := w) (Nat.le_refl _) _ D _ _ (by omega) hKE rfl rfl)⟩
  · refine ho1.of_block (fun g hg => ?_)
    have hlt := ho1.lt hg
    have e1 : some g = (Value.slice Av ks.length cv).ownBlock := by rw [ownOf_eq]; exact hg.symm
    have n0 : g ≠ w.heap.size := fun e => row_not_own r0 (by decide) ho1 (by rw [← e]; exact e1)
    have n2 : g ≠ w.heap.size + 1 + 1 := fun e => row_not_own r2 (by decide) ho1 (by rw [← e]; exact e1)
    have nD : g ≠ D := fun e => by
      rcases ho1.2 with ⟨h1, _⟩ | ⟨g', cap, cur, h1, _, hgb, _⟩
      · rw [h1] at e1; cases e1
      · rw [h1] at e1
        obtain rfl : g = g' := by simpa [Value.ownBlock] using e1
        rw [e, hK] at hgb
        cases hgb
    exact (World.putObj_heap_other nD).trans ((hE g n0 n2).trans (hg2.block hlt.1))
  · refine (ho2.of_block (fun g hg => ?_)).lower (Below.size hB)
    have hlt := ho2.lt hg
    exact (World.putObj_heap_other (by omega)).trans (hE g (by omega) (by omega))
/-- what Due answers -/
def DueAns (w : World) (zs : List En) (now : Nat) (r : Ending) (w' : World) : Prop := ∃ A1 c1 A2 c2, r = .returned (.tuple #[.slice A1 (dueL zs now).length c1, .agg #[.func (.func 8) #[] #[], .slice A2 (zs.length - (dueL zs now).length) c2]]) ∧ Own w' w.heap.size 24 2 kyCell A1 c1 ((dueL zs now).map enKey) ∧ Own w' w.heap.size 89 3 enCell A2 c2 (zs.drop (dueL zs now).length) ∧ Gr w w'
theorem le_due (A : Option Addr) (cap : Nat) (zs : List En) (hcap : zs.length ≤ cap) (hcm : cap ≤ maxLen) (hl : zs.length ≤ 4000) (now : Nat) (w : World) (hs : SliceAt w A 3 enCell zs) :
    Calls Try.prog 19 #[.agg #[.func (.func 8) #[] #[], .slice A zs.length cap], .int .u64 (now : Nat)] w fun r w' => DueAns w zs now r w' := by
  refine (callsIn_wide (n := 6)).1 ?_
  have hro : Fence.wide.round = none := rfl
  obtain ⟨i0, hi, hz0, hz1, hz2⟩ := info_parts le_info_key
  refine callsIn_of_wp_marks Try.func19 rfl trivial ?_ hro
  simp only [Try.ntmps19, List.size_toArray, List.length_cons, List.length_nil, Nat.reduceAdd, Nat.reduceSub, Array.replicate_succ, Array.replicate_zero, List.push_toArray, List.append_toArray, List.nil_append, List.cons_append]
  gi_wp2_with (refine ⟨trivial, ?_⟩; gi_at_call 44; refine (le_all Fence.wide _ trivial hro _ _ _).mono ?_; rintro e w' ⟨rfl, rfl⟩)
  have q0 := rowA (rowA (rowA (rowA (heap_alloc_last w (.cells #[.func (.func 8) #[] #[], .slice A zs.length cap] 51)) (.cells #[.int .u64 (now : Nat)] 22)) (.cells #[.nilFunc, .slice none 0 0] 51)) (.cells #[.slice none 0 0] 60)) (.cells #[.func (.func 8) #[] #[], .slice A zs.length cap] 51)
  have q1 := rowA (rowA (rowA (heap_alloc_last (w.alloc (.cells #[.func (.func 8) #[] #[], .slice A zs.length cap] 51)) (.cells #[.int .u64 (now : Nat)] 22)) (.cells #[.nilFunc, .slice none 0 0] 51)) (.cells #[.slice none 0 0] 60)) (.cells #[.func (.func 8) #[] #[], .slice A zs.length cap] 51)
  have q2 := rowA (rowA (heap_alloc_last ((w.alloc (.cells #[.func (.func 8) #[] #[], .slice A zs.length cap] 51)).alloc (.cells #[.int .u64 (now : Nat)] 22)) (.cells #[.nilFunc, .slice none 0 0] 51)) (.cells #[.slice none 0 0] 60)) (.cells #[.func (.func 8) #[] #[], .slice A zs.length cap] 51)
  have q3 := rowA (heap_alloc_last (((w.alloc (.cells #[.func (.func 8) #[] #[], .slice A zs.length cap] 51)).alloc (.cells #[.int .u64 (now : Nat)] 22)).alloc (.cells #[.nilFunc, .slice none 0 0] 51)) (.cells #[.slice none 0 0] 60)) (.cells #[.func (.func 8) #[] #[], .slice A zs.length cap] 51)
  have q4 := heap_alloc_last ((((w.alloc (.cells #[.func (.func 8) #[] #[], .slice A zs.length cap] 51)).alloc (.cells #[.int .u64 (now : Nat)] 22)).alloc (.cells #[.nilFunc, .slice none 0 0] 51)).alloc (.cells #[.slice none 0 0] 60)) (.cells #[.func (.func 8) #[] #[], .slice A zs.length cap] 51)
  have hB0 : Gr w (((((w.alloc (.cells #[.func (.func 8) #[] #[], .slice A zs.length cap] 51)).alloc (.cells #[.int .u64 (now : Nat)] 22)).alloc (.cells #[.nilFunc, .slice none 0 0] 51)).alloc (.cells #[.slice none 0 0] 60)).alloc (.cells #[.func (.func 8) #[] #[], .slice A zs.length cap] 51)) := (((((Gr.refl w).alloc _).alloc _).alloc _).alloc _).alloc _
  have hsz : (((((w.alloc (.cells #[.func (.func 8) #[] #[], .slice A zs.length cap] 51)).alloc (.cells #[.int .u64 (now : Nat)] 22)).alloc (.cells #[.nilFunc, .slice none 0 0] 51)).alloc (.cells #[.slice none 0 0] 60)).alloc (.cells #[.func (.func 8) #[] #[], .slice A zs.length cap] 51)).heap.size = w.heap.size + 1 + 1 + 1 + 1 + 1 := by simp only [alloc_size]
  simp only [alloc_size] at q1 q2 q3 q4
  generalize (((((w.alloc (.cells #[.func (.func 8) #[] #[], .slice A zs.length cap] 51)).alloc (.cells #[.int .u64 (now : Nat)] 22)).alloc (.cells #[.nilFunc, .slice none 0 0] 51)).alloc (.cells #[.slice none 0 0] 60)).alloc (.cells #[.func (.func 8) #[] #[], .slice A zs.length cap] 51)) = W0 at *
  refine wpIn_rangeFunc_ownH hro (by omega) (gf := 59) (lb := #[.pointer (some ⟨w.heap.size + 1 + 1 + 1 + 1, 0, none⟩)]) rfl trivial (enters_of Try.func59 (by kernel_rfl) rfl)
    (le_all_stops Fence.wide (6 - 1) trivial hro (by omega) (w.heap.size + 1 + 1 + 1 + 1) cap A zs hl w W0 hs hB0 (le_cell q4 1 _ rfl) (by omega)) belowK_t (belowK_b (by omega)) (Below.refl _ _) (fun _ => rfl)
    (fun pre W => ((∃ v, Boxed W (w.heap.size + 1 + 1 + 1) 60 v ∧ W.ownsRow w.heap.size 24 2 v (dueL pre now).length (dueC pre now) ∧ True) ∧ (W.heap[w.heap.size]? = some (.cells #[.func (.func 8) #[] #[], .slice A zs.length cap] 51 (0, 0)) ∧ W.heap[w.heap.size + 1]? = some (.cells #[.int .u64 (now : Nat)] 22 (0, 0)) ∧ W.heap[w.heap.size + 1 + 1]? = some (.cells #[.nilFunc, .slice none 0 0] 51 (0, 0)) ∧ w.heap.size + 1 + 1 + 1 + 1 < W.heap.size)) ∧ Below w.heap.size w W)
    (fun _ _ _ => False)
    (OwnFrom.and (OwnFrom.and (Go.Own.from (holdsRow_own w.heap.size (w.heap.size + 1 + 1 + 1) 60 24 2 (fun pre => (dueL pre now).length) (fun pre => dueC pre now) (fun _ _ => True)) _) (OwnFrom.and (Go.Own.from (row_own _ _ _) _) (OwnFrom.and (Go.Own.from (row_own _ _ _) _) (OwnFrom.and (Go.Own.from (row_own _ _ _) _) (fun s A B row hs hg hr => Nat.lt_of_lt_of_le hs hg.size))))) (ownFrom_below (Nat.le_refl _) (by omega)))
    (fun _ _ _ _ _ hs _ _ => hs)
    ⟨⟨⟨.slice none 0 0, q3, World.ownsRow_nil _ _ _ _, trivial⟩, q0, q1, q2, by omega⟩, hB0⟩
    (fun x a' W => ∃ Bx, w.heap.size + 1 + 1 + 1 + 1 < Bx ∧ W.heap[Bx]? = some (.cells #[.string x.1, .int .u64 (x.2.1 : Nat)] 24 (0, 0)) ∧ a' = { tmps := #[.agg #[.func (.func 8) #[] #[], .slice A zs.length cap], .int .u64 (now : Nat), .pointer (some ⟨w.heap.size, 0, none⟩), .pointer (some ⟨w.heap.size + 1, 0, none⟩), .slice none 0 0, .pointer (some ⟨w.heap.size + 1 + 1, 0, none⟩), .pointer (some ⟨w.heap.size + 1 + 1 + 1, 0, none⟩), .pointer (some ⟨Bx, 0, none⟩), .int .u64 (x.2.2 : Nat), .agg #[.func (.func 8) #[] #[], .slice A zs.length cap], .func (.func 59) #[] #[.pointer (some ⟨w.heap.size + 1 + 1 + 1 + 1, 0, none⟩)], .agg #[.string x.1, .int .u64 (x.2.1 : Nat)], .int .u64 (x.2.2 : Nat), undef, undef, undef, undef, undef, undef, undef, undef, undef, undef, undef, undef, undef, undef, undef, undef], defers := [] })
    (fun x a' _ X Y row hs hg hr => by obtain ⟨Bx, h1, h2, h3⟩ := hs; exact ⟨Bx, h1, row_own Bx 24 _ () X Y row h2 hg (fun r e => (hr r e).2), h3⟩)
    ?assign ?body ?done ?stop
  case assign =>
    rintro l pre x W K ⟨⟨⟨v, hv, hrow, ht⟩, r0, r1, r2, hZ⟩, hB⟩ hK
    dsimp only [enEnc]
    gi_wp2
    exact hK _ _ ((KeepsOthers.alloc _ _).from _) ((Below.refl _ W).alloc hB.size _) ⟨⟨⟨v, hv.alloc _, hrow.alloc _, ht⟩, rowA r0 _, rowA r1 _, rowA r2 _, by rw [alloc_size]; omega⟩, hB.alloc hB.size _⟩ ⟨W.heap.size, hZ, heap_alloc_last W _, rfl⟩
  case body =>
    rintro l pre x a' W hl9 hr9 ⟨⟨⟨v, hv, hrow, ht⟩, r0, r1, r2, hZ⟩, hB⟩ ⟨Bx, hBx, rX, rfl⟩ hlt
    have hc := hv.cell
    have c1 := le_cell r1 0 _ rfl
    have k0 := le_cell rX 0 _ rfl
    have k1 := le_cell rX 1 _ rfl
    have hpl : (dueL pre now).length ≤ pre.length := List.length_filter_le _ _
    have hbz := hB.size
    obtain ⟨x0, x1, x2⟩ := x
    by_cases hx : x2 ≤ now
    · have hx' : ((x2 : Nat) : Int) ≤ (now : Int) := by omega
      gi_wp2_with (gi_at_builtin; refine wpListIn_append_own _ rfl _ _ 60 rfl w.heap.size 24 i0 _ 2 24 Try.underlying60 hi hz0 hz1 hz2 rfl (by decide) _ _ _ rfl (hrow.alloc _) ⟨W.heap.size, 0, none⟩ 1 1 [.string x0, .int .u64 (x1 : Nat)] rfl rfl (World.news_of_block (cs := #[.string x0, .int .u64 (x1 : Nat)]) (heap_alloc_last W _)) (by simp [Value.oneCell']) (by unfold maxLen; omega) (by omega) (by have := hB.size; simp; omega) ?_; intro v' w1 hown' hgrow _; obtain ⟨g', cap', rfl⟩ := ownsRow_succ hown'; obtain ⟨hv1, hv2, hr2, hk2, hb2⟩ := hv.appended (by decide) hrow hB.size (by omega) hown' hgrow; have hc1 := hv1.cell; have hf1 := hv1.frozen)
      exact ⟨hk2.from _, hb2, ⟨⟨_, hv2, by rw [dueC_hit pre hx, dueL_hit pre hx, List.length_append]; exact hr2⟩, row_appended r0 (by decide) hrow hgrow (by omega), row_appended r1 (by decide) hrow hgrow (by omega), row_appended r2 (by decide) hrow hgrow (by omega), Nat.lt_of_lt_of_le hZ hb2.size⟩, hB.trans hb2⟩
    · have hx' : ¬ ((x2 : Nat) : Int) ≤ (now : Int) := by omega
      gi_wp2
      exact ⟨KeepsFrom.refl _ _, Below.refl _ _, ⟨⟨v, hv, by rw [dueL_miss pre hx, dueC_miss pre hx]; exact hrow⟩, r0, r1, r2, hZ⟩, hB⟩
  case done =>
    rintro D ys W hD rfl ⟨⟨⟨v, hv, hrow, ht⟩, r0, r1, r2, hZ⟩, hB⟩ hK
    have hc := hv.cell
    have c0 := le_cell r0 1 _ rfl
    have f0 := frozen_of_row _ _ 1 _ _ r0
    obtain ⟨Av, cv, rfl⟩ : ∃ Av cv, v = .slice Av (dueL ys now).length cv := by
      rcases hrow.2 with ⟨rfl, h0⟩ | ⟨g, cap, cur, rfl, _⟩
      · exact ⟨none, 0, by rw [h0]⟩
      · exact ⟨_, _, rfl⟩
    have hk := dueL_le ys now
    have hdl : ys.length - (dueL ys now).length = (ys.drop (dueL ys now).length).length := by rw [List.length_drop]
    have HDL := Lib.hid hdl
    clear hdl
    have hk' : (((dueL ys now).length : Nat) : Int) ≤ ((ys.length : Nat) : Int) := by omega
    have hsW : SliceAt W A 3 enCell ys := hs.gr hB
    have ho1 : Own W w.heap.size 24 2 kyCell Av cv ((dueL ys now).map enKey) := by
      unfold Own
      rw [List.length_map, ← dueC_eq]
      exact hrow
    by_cases hck : cap = (dueL ys now).length
    · have HZ0 : Hid (ys.length - (dueL ys now).length = 0) := by show _ = _; omega
      subst hck
      gi_wp2_with (refine ⟨trivial, ?_⟩; gi_at_call 43; refine (callsIn_wide.2 (en_cloneN (A) 0 0 (ys.drop (dueL ys now).length) (by have := HDL.out; omega) (by have := HDL.out; omega) (by omega) (by have := HDL.out; omega) W (en_drop_all (by omega)))).mono ?_; rintro e v2 ⟨A2, c2, rfl, ho2, hg2⟩; have s0 := (hg2.block (lt_row r0)).trans r0; have s2 := (hg2.block (lt_row r2)).trans r2; have d0 := le_cell s0 0 _ rfl; have d1 := le_cell s0 1 _ rfl; have g0 := frozen_of_row _ _ 0 _ _ s0; have g1 := frozen_of_row _ _ 1 _ _ s0; have e0 := le_cell s2 0 _ rfl; have e1 := le_cell s2 1 _ rfl; have i20 := frozen_of_row _ _ 0 _ _ s2; have i21 := frozen_of_row _ _ 1 _ _ s2; have bc := (Boxed.cell (show Boxed v2 _ _ _ from (hg2.block (lt_row hv)).trans hv)))
      have t0 := heap_setCell_same _ _ 1 _ _ (.slice A2 0 c2) s0
      have t2 := (heap_setCell_other v2 ⟨w.heap.size, 1, none⟩ (w.heap.size + 1 + 1) (.slice A2 0 c2) (by show w.heap.size + 1 + 1 ≠ w.heap.size; omega)).trans s2
      have b3 := (heap_setCell_other v2 ⟨w.heap.size, 1, none⟩ (w.heap.size + 1 + 1 + 1) (.slice A2 0 c2) (by show w.heap.size + 1 + 1 + 1 ≠ w.heap.size; omega)).trans ((hg2.block (lt_row hv)).trans hv)
      have HE := Lib.hid (due_end (S := .slice A2 0 c2) hB hg2 r0 r2 hK (by omega) ho1 ho2)
      have u0 := le_cell t0 0 _ rfl
      have u1 := le_cell t0 1 _ rfl
      have z0 := le_cell t2 0 _ rfl
      have z1 := le_cell t2 1 _ rfl
      have y0 := frozen_of_row _ _ 0 _ _ t2
      have y1 := frozen_of_row _ _ 1 _ _ t2
      have x0 := le_cell b3 0 _ rfl
      clear t0 t2 b3 s0 s2 d0 d1 g0 g1 e0 e1 i20 i21 bc r0 r1 r2 q0 q1 q2 q3 q4 hc c0 f0 hv
      generalize v2.setCell ⟨w.heap.size, 1, none⟩ (.slice A2 0 c2) = U at *
      have n1 : ¬ w.heap.size = w.heap.size + 1 + 1 := by omega
      have n2 : ¬ w.heap.size + 1 + 1 = w.heap.size := by omega
      have n3 : ¬ w.heap.size + 1 + 1 + 1 = w.heap.size + 1 + 1 := by omega
      have n4 : ¬ w.heap.size + 1 + 1 = w.heap.size + 1 + 1 + 1 := by omega
      have zd0 : U.drew.cell? ⟨w.heap.size + 1 + 1, 0, none⟩ = some .nilFunc := z0
      have zd1 : U.drew.cell? ⟨w.heap.size + 1 + 1, 1, none⟩ = some (.slice none 0 0) := z1
      have yd0 : U.drew.frozen? ⟨w.heap.size + 1 + 1, 0, none⟩ = false := y0
      have yd1 : U.drew.frozen? ⟨w.heap.size + 1 + 1, 1, none⟩ = false := y1
      gi_region
      gi_wp2
      refine ⟨by simp, .inl ⟨_, _, rfl, run_takeDeferred HE.out.1, ?_⟩⟩
      exact ⟨_, results_t_c rfl _ _ (w.heap.size + 1 + 1) _ #[.func (.func 8) #[] #[], .slice A2 0 c2] (0, 0) (.struct _) rfl HE.out.2.1 Try.underlying51 rfl (by kernel_rfl), Av, cv, A2, c2, by rw [HZ0.out]; rfl, HE.out.2.2.1, HE.out.2.2.2.1, HE.out.2.2.2.2⟩
    · have hck2 : ¬ (cap = (dueL ys now).length) := hck
      gi_wp2_with (refine ⟨trivial, ?_⟩; gi_at_call 43; refine (callsIn_wide.2 (en_cloneN (Option.map (fun x => x.add ((dueL ys now).length * 3)) A) (ys.length - (dueL ys now).length) (cap - (dueL ys now).length) (ys.drop (dueL ys now).length) HDL.out (by have := HDL.out; omega) (by omega) (by have := HDL.out; omega) W (en_drop_at _ hsW))).mono ?_; rintro e v2 ⟨A2, c2, rfl, ho2, hg2⟩; have s0 := (hg2.block (lt_row r0)).trans r0; have s2 := (hg2.block (lt_row r2)).trans r2; have d0 := le_cell s0 0 _ rfl; have d1 := le_cell s0 1 _ rfl; have g0 := frozen_of_row _ _ 0 _ _ s0; have g1 := frozen_of_row _ _ 1 _ _ s0; have e0 := le_cell s2 0 _ rfl; have e1 := le_cell s2 1 _ rfl; have i20 := frozen_of_row _ _ 0 _ _ s2; have i21 := frozen_of_row _ _ 1 _ _ s2; have bc := (Boxed.cell (show Boxed v2 _ _ _ from (hg2.block (lt_row hv)).trans hv)))
      have t0 := heap_setCell_same _ _ 1 _ _ (.slice A2 (ys.length - (dueL ys now).length) c2) s0
      have t2 := (heap_setCell_other v2 ⟨w.heap.size, 1, none⟩ (w.heap.size + 1 + 1) (.slice A2 (ys.length - (dueL ys now).length) c2) (by show w.heap.size + 1 + 1 ≠ w.heap.size; omega)).trans s2
      have b3 := (heap_setCell_other v2 ⟨w.heap.size, 1, none⟩ (w.heap.size + 1 + 1 + 1) (.slice A2 (ys.length - (dueL ys now).length) c2) (by show w.heap.size + 1 + 1 + 1 ≠ w.heap.size; omega)).trans ((hg2.block (lt_row hv)).trans hv)
      have HE := Lib.hid (due_end (S := .slice A2 (ys.length - (dueL ys now).length) c2) hB hg2 r0 r2 hK (by omega) ho1 ho2)
      have u0 := le_cell t0 0 _ rfl
      have u1 := le_cell t0 1 _ rfl
      have z0 := le_cell t2 0 _ rfl
      have z1 := le_cell t2 1 _ rfl
      have y0 := frozen_of_row _ _ 0 _ _ t2
      have y1 := frozen_of_row _ _ 1 _ _ t2
      have x0 := le_cell b3 0 _ rfl
      clear t0 t2 b3 s0 s2 d0 d1 g0 g1 e0 e1 i20 i21 bc r0 r1 r2 q0 q1 q2 q3 q4 hc c0 f0 hv
      generalize v2.setCell ⟨w.heap.size, 1, none⟩ (.slice A2 (ys.length - (dueL ys now).length) c2) = U at *
      have n1 : ¬ w.heap.size = w.heap.size + 1 + 1 := by omega
      have n2 : ¬ w.heap.size + 1 + 1 = w.heap.size := by omega
      have n3 : ¬ w.heap.size + 1 + 1 + 1 = w.heap.size + 1 + 1 := by omega
      have n4 : ¬ w.heap.size + 1 + 1 = w.heap.size + 1 + 1 + 1 := by omega
      have zd0 : U.drew.cell? ⟨w.heap.size + 1 + 1, 0, none⟩ = some .nilFunc := z0
      have zd1 : U.drew.cell? ⟨w.heap.size + 1 + 1, 1, none⟩ = some (.slice none 0 0) := z1
      have yd0 : U.drew.frozen? ⟨w.heap.size + 1 + 1, 0, none⟩ = false := y0
      have yd1 : U.drew.frozen? ⟨w.heap.size + 1 + 1, 1, none⟩ = false := y1
      gi_region
      gi_wp2
      refine ⟨by simp, .inl ⟨_, _, rfl, run_takeDeferred HE.out.1, ?_⟩⟩
      exact ⟨_, results_t_c rfl _ _ (w.heap.size + 1 + 1) _ #[.func (.func 8) #[] #[], .slice A2 (ys.length - (dueL ys now).length) c2] (0, 0) (.struct _) rfl HE.out.2.1 Try.underlying51 rfl (by kernel_rfl), Av, cv, A2, c2, rfl, HE.out.2.2.1, HE.out.2.2.2.1, HE.out.2.2.2.2⟩
  case stop =>
    rintro D c pre W _ _ h _
    exact h.elim
end Go.Proofs.Ytmclhhlekblkeaa
