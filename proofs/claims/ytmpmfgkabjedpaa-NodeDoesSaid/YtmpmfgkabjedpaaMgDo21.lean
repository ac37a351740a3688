/- Layer 10: the document's frame of a branch. -/
import Derived.Test.YtmpmfgkabjedpaaMgDo01
import Derived.Test.YtmpmfgkabjedpaaMgDo08
import Derived.Test.YtmpmfgkabjedpaaMgDo18
import Derived.Test.YtmpmfgkabjedpaaMgDo19
import Derived.Test.YtmpmfgkabjedpaaMgDo20
namespace Go.Proofs.Ytmpmfgkabjedpaa
open Go.RowKit
set_option linter.unusedVariables false
set_option linter.unusedSimpArgs false
set_option maxRecDepth 100000
set_option maxHeartbeats 2000000
theorem rf_frameK (v : Value) (zs : List Ce) (hl : zs.length ≤ 4000) (hx : ∀ x ∈ zs, ceOk x) (id tx : Nat) (w : World) (h : RfAt w false v zs) (hr : zs ≠ [] ∧ hdC0 zs = .empty ∧ ∀ z ∈ zs, 2 ≤ z.2.2.1) :
    Calls Try.prog 18 #[v, .int .u32 (id : Nat), .int .u64 (tx : Nat)] w fun r w' => r = .returned (ndFr 3 zs.length id tx (slBody (rcErr false zs) (zs.map (rcB false)))) ∧ Gr w w' := by
  have cR := fun w1 (hg : Gr w w1) => Lib.hid (rf_rightK v zs w1 (h.gr hg) true ⟨fun _ => hr, fun _ => rfl⟩)
  obtain ⟨A, cap, rfl, hs, h1, h2⟩ := h
  have cB := fun w1 (hg : Gr w w1) => Lib.hid (rf_body false A cap zs h1 h2 hl hx w1 (hs.gr hg))
  clear hs hx hr
  generalize slBody (rcErr false zs) (zs.map (rcB false)) = dd at *
  obtain ⟨bp, be⟩ := dd
  simp only at cB
  have hw16 : IntKind.u16.wrap ((zs.length : Nat) : Int) = ((zs.length : Nat) : Int) := by rw [IntKind.wrap_u16]; omega
  have HW : Hid (Gr w ((w.alloc (.cells #[.bool false, .slice A zs.length cap] 32)).alloc (.cells #[.int .u8 0, .int .u16 0, .int .u32 0, .int .u64 0, .string { data := #[] }] 49))) := ((Gr.refl w).alloc _).alloc _
  have hr1 := heap_alloc_last (w.alloc (.cells #[.bool false, .slice A zs.length cap] 32)) (.cells #[.int .u8 0, .int .u16 0, .int .u32 0, .int .u64 0, .string { data := #[] }] 49)
  rw [alloc_size] at hr1
  have hr0 := (((Gr.refl (w.alloc (.cells #[.bool false, .slice A zs.length cap] 32))).alloc (.cells #[.int .u8 0, .int .u16 0, .int .u32 0, .int .u64 0, .string { data := #[] }] 49)).block (k := w.heap.size) (by rw [alloc_size]; omega)).trans (heap_alloc_last w (.cells #[.bool false, .slice A zs.length cap] 32))
  have HR := Lib.hid (And.intro hr0 hr1)
  clear hr0 hr1
  by_cases he : be = 0
  · subst he
    go_enter Try.func18, Try.ntmps18
    go_wp2_with (first
      | (go_at_call 53; refine (cR _ HW.out).out.mono ?_; clear cR; rintro r v1 ⟨rfl, hg⟩; have q0 := (hg.block (lt_of_row HR.out.1)).trans HR.out.1; have q1 := (hg.block (lt_of_row HR.out.2)).trans HR.out.2; have HQ := Lib.hid (And.intro (HW.out.trans hg) (And.intro q0 q1)); have n0 := row_cell q0 0 _ rfl; have n1 := row_cell q0 1 _ rfl; clear q0 q1 hg)
      | (go_at_call 54; refine (cB _ (by first | exact HQ.out.1 | exact HQ.out.1.drew)).out.mono ?_; clear cB; rintro r v2 ⟨rfl, hg⟩; have q0 := (hg.block (lt_of_row HQ.out.2.1)).trans HQ.out.2.1; have q1 := (hg.block (lt_of_row HQ.out.2.2)).trans HQ.out.2.2; have HV := Lib.hid (And.intro (HQ.out.1.trans hg) q1); have m0 := row_cell q0 0 _ rfl; have m1 := row_cell q0 1 _ rfl; have y0 := row_cell q1 0 _ rfl; have y1 := row_cell q1 1 _ rfl; have y2 := row_cell q1 2 _ rfl; have y3 := row_cell q1 3 _ rfl; have y4 := row_cell q1 4 _ rfl; have fy0 := frozen_of_row _ _ 0 _ _ q1; have fy1 := frozen_of_row _ _ 1 _ _ q1; have fy2 := frozen_of_row _ _ 2 _ _ q1; have fy3 := frozen_of_row _ _ 3 _ _ q1; have fy4 := frozen_of_row _ _ 4 _ _ q1; clear q0 q1 hg))
    refine bodyPost_ret (results_cell_tmp_row rfl _ _ (w.heap.size + 1) _ #[.int .u8 3, .int .u16 ((zs.length : Nat) : Int), .int .u32 (id : Nat), .int .u64 (tx : Nat), .string bp] (0, 0) (.struct _) rfl (heap_setCell_same _ _ 4 _ _ (.string bp) (heap_setCell_same _ _ 3 _ _ (.int .u64 (tx : Nat)) (heap_setCell_same _ _ 2 _ _ (.int .u32 (id : Nat)) (heap_setCell_same _ _ 1 _ _ (.int .u16 ((zs.length : Nat) : Int)) (heap_setCell_same _ _ 0 _ _ (.int .u8 3) HV.out.2))))) Try.underlying49 rfl (by kernel_rfl)) rfl ⟨by unfold ndFr; rw [if_pos rfl]; rfl, ((((((Ch.refl (w.heap.size + 1) v2).setCell 0 (.int .u8 3)).setCell 1 (.int .u16 ((zs.length : Nat) : Int))).setCell 2 (.int .u32 (id : Nat))).setCell 3 (.int .u64 (tx : Nat))).setCell 4 (.string bp)).gr HV.out.1 (Nat.le_succ _)⟩
  · have heb : (be != 0) = true := by simp [he]
    go_enter Try.func18, Try.ntmps18
    go_wp2_with (first
      | (go_at_call 53; refine (cR _ HW.out).out.mono ?_; clear cR; rintro r v1 ⟨rfl, hg⟩; have q0 := (hg.block (lt_of_row HR.out.1)).trans HR.out.1; have q1 := (hg.block (lt_of_row HR.out.2)).trans HR.out.2; have HQ := Lib.hid (And.intro (HW.out.trans hg) (And.intro q0 q1)); have n0 := row_cell q0 0 _ rfl; have n1 := row_cell q0 1 _ rfl; clear q0 q1 hg)
      | (go_at_call 54; refine (cB _ (by first | exact HQ.out.1 | exact HQ.out.1.drew)).out.mono ?_; clear cB; rintro r v2 ⟨rfl, hg⟩; have q0 := (hg.block (lt_of_row HQ.out.2.1)).trans HQ.out.2.1; have q1 := (hg.block (lt_of_row HQ.out.2.2)).trans HQ.out.2.2; have HV := Lib.hid (And.intro (HQ.out.1.trans hg) q1); have m0 := row_cell q0 0 _ rfl; have m1 := row_cell q0 1 _ rfl; have y0 := row_cell q1 0 _ rfl; have y1 := row_cell q1 1 _ rfl; have y2 := row_cell q1 2 _ rfl; have y3 := row_cell q1 3 _ rfl; have y4 := row_cell q1 4 _ rfl; have fy0 := frozen_of_row _ _ 0 _ _ q1; have fy1 := frozen_of_row _ _ 1 _ _ q1; have fy2 := frozen_of_row _ _ 2 _ _ q1; have fy3 := frozen_of_row _ _ 3 _ _ q1; have fy4 := frozen_of_row _ _ 4 _ _ q1; clear q0 q1 hg))
    refine bodyPost_ret (results_cell_tmp_row rfl _ _ (w.heap.size + 1) _ #[.int .u8 0, .int .u16 0, .int .u32 0, .int .u64 0, .string { data := #[] }] (0, 0) (.struct _) rfl (heap_setCell_same _ _ 4 _ _ (.string { data := #[] }) (heap_setCell_same _ _ 3 _ _ (.int .u64 0) (heap_setCell_same _ _ 2 _ _ (.int .u32 0) (heap_setCell_same _ _ 1 _ _ (.int .u16 0) (heap_setCell_same _ _ 0 _ _ (.int .u8 0) HV.out.2))))) Try.underlying49 rfl (by kernel_rfl)) rfl ⟨by unfold ndFr; rw [if_neg he]; rfl, ((((((Ch.refl (w.heap.size + 1) v2).setCell 0 (.int .u8 0)).setCell 1 (.int .u16 0)).setCell 2 (.int .u32 0)).setCell 3 (.int .u64 0)).setCell 4 (.string { data := #[] })).gr HV.out.1 (Nat.le_succ _)⟩
theorem rf_frameKN (v : Value) (zs : List Ce) (id tx : Nat) (w : World) (h : RfAt w false v zs) (hr : ¬ (zs ≠ [] ∧ hdC0 zs = .empty ∧ ∀ z ∈ zs, 2 ≤ z.2.2.1)) :
    Calls Try.prog 18 #[v, .int .u32 (id : Nat), .int .u64 (tx : Nat)] w fun r w' => r = .returned (.tuple #[.agg #[.int .u8 0, .int .u16 0, .int .u32 0, .int .u64 0, .string { data := #[] }], .int .i64 4]) ∧ Gr w w' := by
  have cR := fun w1 (hg : Gr w w1) => Lib.hid (rf_rightK v zs w1 (h.gr hg) false ⟨fun h => (by cases h), fun h => absurd h hr⟩)
  obtain ⟨A, cap, rfl, hs, h1, h2⟩ := h
  clear hs hr
  have HW : Hid (Gr w ((w.alloc (.cells #[.bool false, .slice A zs.length cap] 32)).alloc (.cells #[.int .u8 0, .int .u16 0, .int .u32 0, .int .u64 0, .string { data := #[] }] 49))) := ((Gr.refl w).alloc _).alloc _
  have hr1 := heap_alloc_last (w.alloc (.cells #[.bool false, .slice A zs.length cap] 32)) (.cells #[.int .u8 0, .int .u16 0, .int .u32 0, .int .u64 0, .string { data := #[] }] 49)
  rw [alloc_size] at hr1
  have HR := Lib.hid hr1
  clear hr1
  go_enter Try.func18, Try.ntmps18
  go_wp2_with (go_at_call 53; refine (cR _ HW.out).out.mono ?_; clear cR; rintro r v1 ⟨rfl, hg⟩; have hr1 := (hg.block (lt_of_row HR.out)).trans HR.out; have HV := Lib.hid (And.intro (HW.out.trans hg) hr1); have y0 := row_cell hr1 0 _ rfl; have y1 := row_cell hr1 1 _ rfl; have y2 := row_cell hr1 2 _ rfl; have y3 := row_cell hr1 3 _ rfl; have y4 := row_cell hr1 4 _ rfl; have fy0 := frozen_of_row _ _ 0 _ _ hr1; have fy1 := frozen_of_row _ _ 1 _ _ hr1; have fy2 := frozen_of_row _ _ 2 _ _ hr1; have fy3 := frozen_of_row _ _ 3 _ _ hr1; have fy4 := frozen_of_row _ _ 4 _ _ hr1; clear hg hr1)
  refine bodyPost_ret (results_cell_tmp_row rfl _ _ (w.heap.size + 1) _ #[.int .u8 0, .int .u16 0, .int .u32 0, .int .u64 0, .string { data := #[] }] (0, 0) (.struct _) rfl (heap_setCell_same _ _ 4 _ _ (.string { data := #[] }) (heap_setCell_same _ _ 3 _ _ (.int .u64 0) (heap_setCell_same _ _ 2 _ _ (.int .u32 0) (heap_setCell_same _ _ 1 _ _ (.int .u16 0) (heap_setCell_same _ _ 0 _ _ (.int .u8 0) HV.out.2))))) Try.underlying49 rfl (by kernel_rfl)) rfl ⟨rfl, ((((((Ch.refl (w.heap.size + 1) v1).setCell 0 (.int .u8 0)).setCell 1 (.int .u16 0)).setCell 2 (.int .u32 0)).setCell 3 (.int .u64 0)).setCell 4 (.string { data := #[] })).gr HV.out.1 (Nat.le_succ _)⟩
end Go.Proofs.Ytmpmfgkabjedpaa
namespace Go.Proofs.Ytmpmfgkabjedpaa
open Go.RowKit
set_option linter.unusedVariables false
set_option linter.unusedSimpArgs false
set_option maxRecDepth 100000
set_option maxHeartbeats 2000000
/-- the code's node of a sort, over the document's cells -/
def NsAt (w : World) (v : Value) (leaf : Bool) (zs : List Ce) : Prop :=
  (leaf = true ∧ LfAt w v zs) ∨ (leaf = false ∧ ∃ ys : List Ki, zs = ys.map ceOf ∧ KiAt w v ys)
theorem NsAt.gr {w w' : World} {v : Value} {leaf : Bool} {zs : List Ce} (h : NsAt w v leaf zs) (hg : Gr w w') : NsAt w' v leaf zs := by
  rcases h with ⟨rfl, h⟩ | ⟨rfl, ys, hz, h⟩
  · exact .inl ⟨rfl, h.gr hg⟩
  · exact .inr ⟨rfl, ys, hz, h.gr hg⟩
theorem NsAt.agg {w : World} {v : Value} {leaf : Bool} {zs : List Ce} (h : NsAt w v leaf zs) : ∃ b c, v = .agg #[.bool leaf, b, c] := by
  rcases h with ⟨rfl, A, cap, rfl, _⟩ | ⟨rfl, ys, hz, A, cap, rfl, _⟩
  · exact ⟨_, _, rfl⟩
  · exact ⟨_, _, rfl⟩
theorem RfAt.agg {w : World} {v : Value} {leaf : Bool} {zs : List Ce} (h : RfAt w leaf v zs) : ∃ b, v = .agg #[.bool leaf, b] := by
  obtain ⟨A, cap, rfl, _⟩ := h
  exact ⟨_, rfl⟩
theorem kiOk_of {y : Ki} (h : ceOk (ceOf y)) : kiOk y := ⟨h.1, h.2.2.1⟩
theorem kisOk_of {ys : List Ki} (h : ∀ z ∈ ys.map ceOf, ceOk z) : ∀ y ∈ ys, kiOk y := fun y hy => kiOk_of (h _ (List.mem_map_of_mem hy))
/-- the cells of a node made of cells -/
def nsC (leaf : Bool) (xs : List Ce) : List Ce := if leaf then xs else (xs.map kiOf).map ceOf
theorem nsC_len (leaf : Bool) (xs : List Ce) : (nsC leaf xs).length = xs.length := by unfold nsC; split <;> simp
theorem nsC_ok {leaf : Bool} {xs : List Ce} (h : ∀ x ∈ xs, ceOk x) : ∀ x ∈ nsC leaf xs, ceOk x := by
  unfold nsC
  split
  · exact h
  · intro x hx
    obtain ⟨k, hk, rfl⟩ := List.mem_map.1 hx
    obtain ⟨y, hy, rfl⟩ := List.mem_map.1 hk
    exact ⟨(h y hy).1, by simp [ceOf], (h y hy).2.2.1, by simp [ceOf]⟩
theorem ns_from (leaf : Bool) (A : Option Addr) (cap : Nat) (xs : List Ce) (hcap : xs.length ≤ cap) (hcm : cap ≤ maxLen) (hl : xs.length ≤ 4000) (w : World) (hs : SliceAt w A 4 ceCell xs) :
    Calls Try.prog 9 #[.bool leaf, .slice A xs.length cap] w fun r w' => ∃ v, r = .returned v ∧ NsAt w' v leaf (nsC leaf xs) ∧ Gr w w' := by
  cases leaf
  · refine (nd_fromK A cap xs hcap hcm hl w hs).mono ?_
    rintro r w' ⟨v, rfl, h, hg⟩
    exact ⟨v, rfl, .inr ⟨rfl, _, rfl, h⟩, hg⟩
  · refine (nd_fromL A cap xs hcap hcm w hs).mono ?_
    rintro r w' ⟨v, rfl, h, hg⟩
    exact ⟨v, rfl, .inl ⟨rfl, h⟩, hg⟩
theorem ns_to (leaf : Bool) (v : Value) (zs : List Ce) (hl : zs.length ≤ 4000) (w : World) (h : NsAt w v leaf zs) :
    Calls Try.prog 11 #[v] w fun r w' => ∃ u, r = .returned u ∧ RfAt w' leaf u zs ∧ Gr w w' := by
  rcases h with ⟨rfl, h⟩ | ⟨rfl, ys, rfl, h⟩
  · exact nd_toL v zs w h
  · exact nd_toK v ys (by rwa [List.length_map] at hl) w h
theorem ns_size (leaf : Bool) (v : Value) (zs : List Ce) (hl : zs.length ≤ 4000) (hx : ∀ x ∈ zs, ceOk x) (w : World) (h : NsAt w v leaf zs) :
    Calls Try.prog 21 #[v] w fun r w' => r = .returned (.int .i64 ((rcSum leaf zs : Nat) : Int)) ∧ Gr w w' := by
  rcases h with ⟨rfl, h⟩ | ⟨rfl, ys, rfl, h⟩
  · rw [rcSum_leaf]; exact lf_nsize v zs hl hx w h
  · rw [rcSum_kids]; exact ki_nsize v ys (by rwa [List.length_map] at hl) (kisOk_of hx) w h
theorem ns_fits (leaf : Bool) (v : Value) (zs : List Ce) (hl : zs.length ≤ 4000) (hx : ∀ x ∈ zs, ceOk x) (w : World) (h : NsAt w v leaf zs) :
    Calls Try.prog 23 #[v] w fun r w' => r = .returned (.bool (decide (((rcSum leaf zs : Nat) : Int) ≤ 4072))) ∧ Gr w w' := by
  rcases h with ⟨rfl, h⟩ | ⟨rfl, ys, rfl, h⟩
  · rw [rcSum_leaf]; exact lf_fits v zs hl hx w h
  · rw [rcSum_kids]; exact ki_fits v ys (by rwa [List.length_map] at hl) (kisOk_of hx) w h
theorem ns_thin (leaf : Bool) (v : Value) (zs : List Ce) (hl : zs.length ≤ 4000) (hx : ∀ x ∈ zs, ceOk x) (w : World) (h : NsAt w v leaf zs) :
    Calls Try.prog 24 #[v] w fun r w' => r = .returned (.bool (decide (((rcSum leaf zs : Nat) : Int) < 1018))) ∧ Gr w w' := by
  rcases h with ⟨rfl, h⟩ | ⟨rfl, ys, rfl, h⟩
  · rw [rcSum_leaf]; exact lf_thin v zs hl hx w h
  · rw [rcSum_kids]; exact ki_thin v ys (by rwa [List.length_map] at hl) (kisOk_of hx) w h
theorem ns_sam (leaf : Bool) (v u : Value) (zs : List Ce) (hl : zs.length ≤ 4000) (w : World) (hv : NsAt w v leaf zs) (hu : RfAt w leaf u zs) :
    Calls Try.prog 13 #[v, u] w fun r w' => r = .returned (.bool true) ∧ Gr w w' := by
  rcases hv with ⟨rfl, h⟩ | ⟨rfl, ys, rfl, h⟩
  · exact nd_samL v u zs w h hu
  · exact nd_samK v u ys (by rwa [List.length_map] at hl) w h hu
theorem ceOf_inj : ∀ (xs ys : List Ki), xs.map ceOf = ys.map ceOf → xs = ys
  | [], [], _ => rfl
  | [], y :: ys, h => by simp at h
  | x :: xs, [], h => by simp at h
  | x :: xs, y :: ys, h => by
    simp only [List.map_cons, List.cons.injEq] at h
    rw [ceOf_inj xs ys h.2]
    obtain ⟨a, b⟩ := x
    obtain ⟨c, d⟩ := y
    simp only [ceOf, Prod.mk.injEq] at h
    rw [h.1.1, h.1.2.2.1]
theorem ns_same (leaf : Bool) (v u : Value) (zs : List Ce) (w : World) (hv : NsAt w v leaf zs) (hu : NsAt w u leaf zs) :
    Calls Try.prog 16 #[v, u] w fun r w' => r = .returned (.bool true) ∧ Gr w w' := by
  rcases hv with ⟨rfl, h⟩ | ⟨rfl, ys, rfl, h⟩
  · rcases hu with ⟨_, k⟩ | ⟨h0, _⟩
    · exact nd_sameL v u zs w h k
    · cases h0
  · rcases hu with ⟨h0, _⟩ | ⟨_, y2, hz, k⟩
    · cases h0
    · obtain rfl := ceOf_inj _ _ hz
      exact nd_sameK v u ys w h k
theorem ns_diff (a : Bool) (b c d e : Value) (w : World) :
    Calls Try.prog 16 #[.agg #[.bool a, b, c], .agg #[.bool (!a), d, e]] w fun r w' => r = .returned (.bool false) ∧ Gr w w' := by
  have HW : Hid (Gr w ((w.alloc (.cells #[.bool a, b, c] 27)).alloc (.cells #[.bool (!a), d, e] 27))) := ((Gr.refl w).alloc _).alloc _
  cases a
  · go_enter Try.func16, Try.ntmps16
    go_wp2
    go_ret
    exact ⟨rfl, HW.out⟩
  · go_enter Try.func16, Try.ntmps16
    go_wp2
    go_ret
    exact ⟨rfl, HW.out⟩
/-- may it be? -/
def nsRight (leaf : Bool) (zs : List Ce) : Prop := leaf = true ∨ (zs ≠ [] ∧ hdC0 zs = .empty ∧ ∀ z ∈ zs, 2 ≤ z.2.2.1)
open Classical in
/-- the frame, as a value -/
noncomputable def nsFr (leaf : Bool) (zs : List Ce) (id tx : Nat) : Value :=
  if nsRight leaf zs then ndFr (if leaf then 2 else 3) zs.length id tx (slBody (rcErr leaf zs) (zs.map (rcB leaf)))
  else .tuple #[.agg #[.int .u8 0, .int .u16 0, .int .u32 0, .int .u64 0, .string { data := #[] }], .int .i64 4]
theorem ndFr_shape (k0 n0 i0 t0 : Nat) (d : ByteArray × Int) : ∃ (k n i t : Nat) (s : ByteArray) (e : Int), ndFr k0 n0 i0 t0 d = .tuple #[.agg #[.int .u8 (k : Nat), .int .u16 (n : Nat), .int .u32 (i : Nat), .int .u64 (t : Nat), .string s], .int .i64 e] := by
  unfold ndFr
  split
  · exact ⟨k0, n0, i0, t0, d.1, 0, rfl⟩
  · exact ⟨0, 0, 0, 0, { data := #[] }, d.2, rfl⟩
theorem nsFr_shape (leaf : Bool) (zs : List Ce) (id tx : Nat) : ∃ (k n i t : Nat) (s : ByteArray) (e : Int), nsFr leaf zs id tx = .tuple #[.agg #[.int .u8 (k : Nat), .int .u16 (n : Nat), .int .u32 (i : Nat), .int .u64 (t : Nat), .string s], .int .i64 e] := by
  unfold nsFr
  split
  · exact ndFr_shape _ _ _ _ _
  · exact ⟨0, 0, 0, 0, { data := #[] }, 4, rfl⟩
theorem hdC0_map (ys : List Ki) : hdC0 (ys.map ceOf) = hdK0 ys := by cases ys <;> rfl
theorem nsRight_kids (ys : List Ki) : nsRight false (ys.map ceOf) ↔ (ys ≠ [] ∧ hdK0 ys = .empty ∧ ¬ kiLow ys) := by
  unfold nsRight kiLow
  rw [hdC0_map]
  constructor
  · rintro (h | ⟨h1, h2, h3⟩)
    · cases h
    · refine ⟨by simpa using h1, h2, ?_⟩
      rintro ⟨y, hy, hlt⟩
      have := h3 _ (List.mem_map_of_mem (f := ceOf) hy)
      simp only [ceOf] at this
      omega
  · rintro ⟨h1, h2, h3⟩
    refine .inr ⟨by simpa using h1, h2, ?_⟩
    intro z hz
    obtain ⟨y, hy, rfl⟩ := List.mem_map.1 hz
    have : ¬ y.2 < 2 := fun hlt => h3 ⟨y, hy, hlt⟩
    simp only [ceOf]
    omega
theorem ns_frame (leaf : Bool) (v : Value) (zs : List Ce) (hl : zs.length ≤ 4000) (hx : ∀ x ∈ zs, ceOk x) (id tx : Nat) (w : World) (h : NsAt w v leaf zs) :
    Calls Try.prog 17 #[v, .int .u32 (id : Nat), .int .u64 (tx : Nat)] w fun r w' => r = .returned (nsFr leaf zs id tx) ∧ Gr w w' := by
  rcases h with ⟨rfl, h⟩ | ⟨rfl, ys, rfl, h⟩
  · have e : nsFr true zs id tx = ndFr 2 zs.length id tx (slBody (lfErr zs) (zs.map lfB)) := by
      unfold nsFr; rw [if_pos (.inl rfl), rcErr_leaf, rcB_leaf]; rfl
    rw [e]
    exact nd_frameL v zs hl hx id tx w h
  · have hl2 : ys.length ≤ 4000 := by rwa [List.length_map] at hl
    by_cases hr : ys ≠ [] ∧ hdK0 ys = .empty ∧ ¬ kiLow ys
    · have e : nsFr false (ys.map ceOf) id tx = ndFr 3 ys.length id tx (slBody (kiErr ys) (ys.map kiB)) := by
        unfold nsFr; rw [if_pos ((nsRight_kids ys).2 hr), rcErr_kids, rcB_kids, List.length_map]; rfl
      rw [e]
      exact nd_frameK v ys hl2 (kisOk_of hx) id tx w h hr
    · have e : nsFr false (ys.map ceOf) id tx = .tuple #[.agg #[.int .u8 0, .int .u16 0, .int .u32 0, .int .u64 0, .string { data := #[] }], .int .i64 4] := by
        unfold nsFr; rw [if_neg (fun k => hr ((nsRight_kids ys).1 k))]
      rw [e]
      exact nd_frameKN v ys id tx w h hr
theorem rs_frame (leaf : Bool) (v : Value) (zs : List Ce) (hl : zs.length ≤ 4000) (hx : ∀ x ∈ zs, ceOk x) (id tx : Nat) (w : World) (h : RfAt w leaf v zs) :
    Calls Try.prog 18 #[v, .int .u32 (id : Nat), .int .u64 (tx : Nat)] w fun r w' => r = .returned (nsFr leaf zs id tx) ∧ Gr w w' := by
  cases leaf
  · by_cases hr : zs ≠ [] ∧ hdC0 zs = .empty ∧ ∀ z ∈ zs, 2 ≤ z.2.2.1
    · have e : nsFr false zs id tx = ndFr 3 zs.length id tx (slBody (rcErr false zs) (zs.map (rcB false))) := by
        unfold nsFr; rw [if_pos (.inr hr)]; rfl
      rw [e]
      exact rf_frameK v zs hl hx id tx w h hr
    · have e : nsFr false zs id tx = .tuple #[.agg #[.int .u8 0, .int .u16 0, .int .u32 0, .int .u64 0, .string { data := #[] }], .int .i64 4] := by
        unfold nsFr; rw [if_neg (fun k => k.elim (fun h => by cases h) hr)]
      rw [e]
      exact rf_frameKN v zs id tx w h hr
  · have e : nsFr true zs id tx = ndFr 2 zs.length id tx (slBody (rcErr true zs) (zs.map (rcB true))) := by
      unfold nsFr; rw [if_pos (.inl rfl)]; rfl
    rw [e]
    exact rf_frameL v zs hl hx id tx w h
end Go.Proofs.Ytmpmfgkabjedpaa
namespace Go.Proofs.Ytmpmfgkabjedpaa
set_option linter.unusedVariables false
set_option linter.unusedSimpArgs false
theorem B_extract (l : List UInt8) (i j : Nat) : (B l).extract i j = B ((l.drop i).take (j - i)) := by
  apply ByteArray.ext
  apply Array.ext'
  simp only [ByteArray.data_extract, Array.toList_extract, List.extract_eq_take_drop]
  rfl
theorem B_of (s : ByteArray) : ∃ l, s = B l := ⟨s.data.toList, by cases s; simp [B]⟩
theorem rdTake_ahead (l r : List UInt8) : rdTake (B (l ++ r)) 0 (l.length : Nat) = (B l, B r, 0) := by
  have hz : (B (l ++ r)).size = l.length + r.length := by rw [B_size, List.length_append]
  unfold rdTake
  rw [if_neg (by simp), if_neg (by rw [hz]; omega), B_extract, B_extract, hz, Int.toNat_natCast]
  simp
theorem rdTake_ahead' (l r : List UInt8) (k : Nat) (h : l.length = k) : rdTake (B (l ++ r)) 0 (k : Nat) = (B l, B r, 0) := by subst h; exact rdTake_ahead l r
theorem rdNum_ahead (n k : Nat) (r : List UInt8) (h : n < 256 ^ k) : rdNum (B (Oct.be n k ++ r)) 0 k = (n, B r, 0) := by
  unfold rdNum
  rw [rdTake_ahead' _ r k (Oct.be_length n k)]
  simp only [B_list]
  rw [Oct.num_be n k h]
theorem rdText_ahead (l r : List UInt8) (h : l.length < 4294967296) (m : Int) (hm : (l.length : Int) ≤ m) : rdText (B (Oct.be l.length 4 ++ (l ++ r))) 0 m = (B l, B r, 0) := by
  unfold rdText
  rw [rdNum_ahead l.length 4 (l ++ r) (by omega)]
  simp only
  rw [if_neg (by omega), rdTake_ahead]
theorem Oct.text_B (l : List UInt8) : B (Oct.be (B l).size 4) ++ B l = B (Oct.be l.length 4 ++ l) := by rw [B_size, B_app]
end Go.Proofs.Ytmpmfgkabjedpaa
