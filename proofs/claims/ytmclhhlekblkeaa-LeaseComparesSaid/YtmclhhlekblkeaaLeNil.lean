/- Layer 23: a table of nothing: Free, Lend. -/
import Derived.Laws.EntriesVeiled
import Derived.Deep.RegionLaw
import Derived.Test.YtmclhhlekblkeaaLeDue
namespace Go.Proofs.Ytmclhhlekblkeaa
open Go.RowKit Go.Shelf
set_option linter.unusedVariables false
set_option linter.unusedSimpArgs false
set_option maxRecDepth 100000
set_option maxHeartbeats 2000000
theorem ix_nil (f : Value) (w : World) : Calls Try.prog 57 #[.slice none 0 0, f] w fun r w' => r = .returned (.int .i64 (-1)) ∧ Gr w w' := by
  go_enter Try.func57, Try.ntmps57
  go_wp2
  go_loopw [8] (fun i wr => i = .int .i64 0 ∧ wr = w) (fun i _ => 0)
  case atStart => exact ⟨rfl, rfl⟩
  case round =>
    obtain ⟨rfl, rfl⟩ := hrel
    go_wp2
    go_ret
    exact ⟨rfl, Gr.refl _⟩
theorem bs_nil (q : ByteArray) (i u : Nat) (f : Value) (w : World) : Calls Try.prog 47 #[.slice none 0 0, .agg #[.string q, .int .u64 (i : Nat), .int .u64 (u : Nat)], f] w fun r w' => r = .returned (.tuple #[.int .i64 0, .bool false]) ∧ Gr w w' := by
  go_enter Try.func47, Try.ntmps47
  go_wp2
  have HG : Hid (Gr w (w.alloc (.cells #[.string q, .int .u64 (i : Nat), .int .u64 (u : Nat)] 89))) := (Gr.refl w).alloc _
  generalize w.alloc (.cells #[.string q, .int .u64 (i : Nat), .int .u64 (u : Nat)] 89) = W at *
  go_loopw [9, 10] (fun a c wr => a = .int .i64 0 ∧ c = .int .i64 0 ∧ wr = W) (fun _ _ _ => 0)
  case atStart => exact ⟨rfl, rfl, rfl⟩
  case round =>
    obtain ⟨rfl, rfl, rfl⟩ := hrel
    go_wp2
    go_region
    all_goals go_wp2
    all_goals go_ret2
    all_goals exact ⟨rfl, HG.out.drew⟩
theorem ins_nil (b : Nat) (x : En) (w : World) (hb : w.heap[b]? = some (.cells #[.string x.1, .int .u64 (x.2.1 : Nat), .int .u64 (x.2.2 : Nat)] 89 (0, 0))) : Calls Try.prog 49 #[.slice none 0 0, .int .i64 0, .slice (some ⟨b, 0, none⟩) 1 1] w fun r w' => ∃ A cap, r = .returned (.slice A 1 cap) ∧ Own w' w.heap.size 89 3 enCell A cap [x] ∧ Gr w w' := by
  obtain ⟨ii, hii, hz0, hz1, hz2⟩ := info_parts le_info_en
  go_enter Try.func49, Try.ntmps49
  go_wp2_with (at_builtin; refine wpList_append_lies _ rfl _ _ 49 rfl w.heap.size 89 ii _ 3 32 Try.underlying49 hii hz0 hz1 hz2 rfl (by omega) (.slice none 0 0) 0 (([] : List En).flatMap enCell) rfl (Own.nil _ _ _ _ _) ⟨b, 0, none⟩ 1 1 [.string x.1, .int .u64 (x.2.1 : Nat), .int .u64 (x.2.2 : Nat)] rfl rfl (World.news_of_block (cs := #[.string x.1, .int .u64 (x.2.1 : Nat), .int .u64 (x.2.2 : Nat)]) hb) (fun u hu => by simp at hu; rcases hu with rfl | rfl | rfl <;> rfl) (by omega) (by unfold maxLen; omega) (by omega) (Nat.le_refl _) _ rfl ?_; intro gg cc v5 hown hgrow hat hlt5)
  have HT : Hid (Own v5 w.heap.size 89 3 enCell (some ⟨gg, 0, none⟩) cc ([] ++ [x]) ∧ Gr w v5) := ⟨Own.push (xs := []) x hown, (Own.nil w w.heap.size 89 3 enCell).grown hgrow (Gr.refl _) (Nat.le_refl _)⟩
  clear hown hgrow hat
  go_ret
  exact ⟨_, _, rfl, HT.out.1, HT.out.2⟩
theorem find_nil (q : ByteArray) (i : Nat) (w : World) : Calls Try.prog 41 #[.agg #[.func (.func 8) #[] #[], .slice none 0 0], .agg #[.string q, .int .u64 (i : Nat)]] w fun r w' => r = .returned (.int .i64 (-1)) ∧ Gr w w' := by
  go_enter Try.func41, Try.ntmps41
  go_wp2_with (go_at_call 57; refine (ix_nil _ _).mono ?_; rintro r v1 ⟨rfl, hg⟩)
  go_ret
  exact ⟨rfl, (((Gr.refl w).alloc _).alloc _).trans hg⟩
theorem clone_nil (w : World) : Calls Try.prog 43 #[.slice none 0 0] w fun r w' => r = .returned (.slice none 0 0) ∧ w = w' := by
  have q1 : ∀ n c w1, (binOp .eql 49 (.slice none n c) (.slice none 0 0)).run Try.prog w1 = .ok (.bool true) w1 := fun n c w1 => by kernel_rfl
  go_enter Try.func43, Try.ntmps43
  go_wp2
  go_ret
  exact ⟨rfl, rfl⟩
theorem pair_same {U : World} {b : Nat} {a0 a1 : Value} {t : TypeId} (u0 u1 : Value) (h : U.heap[b]? = some (.cells #[a0, a1] t (0, 0))) : ((U.setCell ⟨b, 0, none⟩ u0).setCell ⟨b, 1, none⟩ u1).heap[b]? = some (.cells #[u0, u1] t (0, 0)) :=
  heap_setCell_same _ _ 1 _ _ u1 (heap_setCell_same _ _ 0 _ _ u0 h)
theorem pair_other {U : World} {b k : Nat} (u0 u1 : Value) (h : k ≠ b) : ((U.setCell ⟨b, 0, none⟩ u0).setCell ⟨b, 1, none⟩ u1).heap[k]? = U.heap[k]? :=
  (heap_setCell_other _ _ _ _ (by show k ≠ b; exact h)).trans (heap_setCell_other _ _ _ _ (by show k ≠ b; exact h))
theorem pair_last {U : World} {b : Nat} (u0 u1 : Value) (o : Obj) : (((U.setCell ⟨b, 0, none⟩ u0).setCell ⟨b, 1, none⟩ u1).alloc o).heap[U.heap.size]? = some o := by
  have h := heap_alloc_last ((U.setCell ⟨b, 0, none⟩ u0).setCell ⟨b, 1, none⟩ u1) o
  rw [setCell_size, setCell_size] at h
  exact h
theorem pair_gr {w U : World} {b : Nat} (u0 u1 : Value) (h : Gr w U) (hb : w.heap.size ≤ b) : Gr w ((U.setCell ⟨b, 0, none⟩ u0).setCell ⟨b, 1, none⟩ u1) := (((Ch.refl b U).setCell 0 u0).setCell 1 u1).gr h hb
theorem free_nil (q : ByteArray) (i : Nat) (w : World) : Calls Try.prog 17 #[.agg #[.func (.func 8) #[] #[], .slice none 0 0], .agg #[.string q, .int .u64 (i : Nat)]] w fun r w' => r = .returned (.agg #[.func (.func 8) #[] #[], .slice none 0 0]) ∧ Gr w w' := by
  have R0 := rowA (rowA (heap_alloc_last w (.cells #[.func (.func 8) #[] #[], .slice none 0 0] 51)) (.cells #[.string q, .int .u64 (i : Nat)] 24)) (.cells #[.nilFunc, .slice none 0 0] 51)
  have R2 := heap_alloc_last ((w.alloc (.cells #[.func (.func 8) #[] #[], .slice none 0 0] 51)).alloc (.cells #[.string q, .int .u64 (i : Nat)] 24)) (.cells #[.nilFunc, .slice none 0 0] 51)
  simp only [alloc_size] at R2
  have HR := Lib.hid (And.intro R0 R2)
  clear R0 R2
  go_enter Try.func17, Try.ntmps17
  go_wp2_with (go_at_call 41; refine (find_nil _ _ _).mono ?_; rintro r v1 ⟨rfl, hg⟩; have s0 := (hg.block (lt_row HR.out.1)).trans HR.out.1; have s2 := (hg.block (lt_row HR.out.2)).trans HR.out.2; have HS := Lib.hid (And.intro s2 hg); have d0 := le_cell s0 0 _ rfl; have d1 := le_cell s0 1 _ rfl; have e0 := le_cell s2 0 _ rfl; have e1 := le_cell s2 1 _ rfl; have i20 := frozen_of_row _ _ 0 _ _ s2; have i21 := frozen_of_row _ _ 1 _ _ s2; clear s0 s2 hg)
  refine bodyPost_ret (results_cell_row rfl _ _ (w.heap.size + 1 + 1) _ #[.func (.func 8) #[] #[], .slice none 0 0] (0, 0) (.struct _) rfl (pair_same (.func (.func 8) #[] #[]) (.slice none 0 0) HS.out.1) Try.underlying51 rfl (by kernel_rfl)) rfl ⟨rfl, pair_gr _ _ ((((Gr.refl w).alloc _).alloc _).alloc _ |>.trans HS.out.2) (by omega)⟩
theorem lend_end {w v2 v4 : World} {u S f : Value} {A : Option Addr} {c : Nat} {es : List En} (hg : Gr w v4)
    (r0 : v4.heap[w.heap.size]? = some (.cells #[f, u] 51 (0, 0))) (r2 : v4.heap[w.heap.size + 1 + 1]? = some (.cells #[.nilFunc, .slice none 0 0] 51 (0, 0))) (hl : w.heap.size + 1 + 1 < v2.heap.size) (ho : Own v4 v2.heap.size 89 3 enCell A c es) :
    (((v4.setCell ⟨w.heap.size, 1, none⟩ S).setCell ⟨w.heap.size + 1 + 1, 0, none⟩ f).setCell ⟨w.heap.size + 1 + 1, 1, none⟩ S).heap[w.heap.size + 1 + 1]? = some (.cells #[f, S] 51 (0, 0)) ∧
    Own (((v4.setCell ⟨w.heap.size, 1, none⟩ S).setCell ⟨w.heap.size + 1 + 1, 0, none⟩ f).setCell ⟨w.heap.size + 1 + 1, 1, none⟩ S) w.heap.size 89 3 enCell A c es ∧
    Gr w (((v4.setCell ⟨w.heap.size, 1, none⟩ S).setCell ⟨w.heap.size + 1 + 1, 0, none⟩ f).setCell ⟨w.heap.size + 1 + 1, 1, none⟩ S) := by
  refine ⟨pair_same _ _ ((heap_setCell_other v4 ⟨w.heap.size, 1, none⟩ _ _ (by show w.heap.size + 1 + 1 ≠ w.heap.size; omega)).trans r2), (ho.of_block (fun g hg2 => ?_)).lower (by omega), pair_gr _ _ (((Ch.refl w.heap.size v4).setCell 1 S).gr hg (Nat.le_refl _)) (by omega)⟩
  have hlt := ho.lt hg2
  exact (pair_other _ _ (by omega)).trans (heap_setCell_other v4 ⟨w.heap.size, 1, none⟩ _ _ (by show g ≠ w.heap.size; omega))
theorem lend_nil (q : ByteArray) (i u : Nat) (w : World) : Calls Try.prog 23 #[.agg #[.func (.func 8) #[] #[], .slice none 0 0], .agg #[.string q, .int .u64 (i : Nat)], .int .u64 (u : Nat)] w fun r w' => ∃ A cap, r = .returned (.agg #[.func (.func 8) #[] #[], .slice A 1 cap]) ∧ Own w' w.heap.size 89 3 enCell A cap [(q, i, u)] ∧ Gr w w' := by
  have R0 := rowA (rowA (heap_alloc_last w (.cells #[.func (.func 8) #[] #[], .slice none 0 0] 51)) (.cells #[.string q, .int .u64 (i : Nat)] 24)) (.cells #[.nilFunc, .slice none 0 0] 51)
  have R1 := rowA (heap_alloc_last (w.alloc (.cells #[.func (.func 8) #[] #[], .slice none 0 0] 51)) (.cells #[.string q, .int .u64 (i : Nat)] 24)) (.cells #[.nilFunc, .slice none 0 0] 51)
  have R2 := heap_alloc_last ((w.alloc (.cells #[.func (.func 8) #[] #[], .slice none 0 0] 51)).alloc (.cells #[.string q, .int .u64 (i : Nat)] 24)) (.cells #[.nilFunc, .slice none 0 0] 51)
  simp only [alloc_size] at R1 R2
  have HR := Lib.hid (And.intro R0 (And.intro R1 R2))
  clear R0 R1 R2
  have n1 : ¬ w.heap.size + 1 = w.heap.size := by omega
  have n2 : ¬ w.heap.size + 1 + 1 = w.heap.size := by omega
  have n3 : ¬ w.heap.size = w.heap.size + 1 := by omega
  have n4 : ¬ w.heap.size = w.heap.size + 1 + 1 := by omega
  go_enter Try.func23, Try.ntmps23
  go_wp2_with (first
    | (go_at_call 17; refine (free_nil _ _ _).mono ?_; rintro r v1 ⟨rfl, hg⟩; have s0 := (hg.block (lt_row HR.out.1)).trans HR.out.1; have s1 := (hg.block (lt_row HR.out.2.1)).trans HR.out.2.1; have s2 := (hg.block (lt_row HR.out.2.2)).trans HR.out.2.2; have HS := Lib.hid (And.intro s0 (And.intro s1 (And.intro s2 hg))); have d0 := le_cell s0 0 _ rfl; have d1 := le_cell s0 1 _ rfl; have g0 := frozen_of_row _ _ 0 _ _ s0; have g1 := frozen_of_row _ _ 1 _ _ s0; have k0 := le_cell s1 0 _ rfl; have k1 := le_cell s1 1 _ rfl; have e0 := le_cell s2 0 _ rfl; have e1 := le_cell s2 1 _ rfl; have i20 := frozen_of_row _ _ 0 _ _ s2; have i21 := frozen_of_row _ _ 1 _ _ s2; have HW := Lib.hid (And.intro (rowA (pair_same (.func (.func 8) #[] #[]) (.slice none 0 0) s0) (.cells #[.string q, .int .u64 (i : Nat), .int .u64 (u : Nat)] 89)) (And.intro (rowA ((pair_other (.func (.func 8) #[] #[]) (.slice none 0 0) n2).trans s2) (.cells #[.string q, .int .u64 (i : Nat), .int .u64 (u : Nat)] 89)) (And.intro (pair_last (U := v1) (b := w.heap.size) (.func (.func 8) #[] #[]) (.slice none 0 0) (.cells #[.string q, .int .u64 (i : Nat), .int .u64 (u : Nat)] 89)) (Gr.alloc (pair_gr (b := w.heap.size) (.func (.func 8) #[] #[]) (.slice none 0 0) ((((Gr.refl w).alloc _).alloc _).alloc _ |>.trans hg) (Nat.le_refl _)) (.cells #[.string q, .int .u64 (i : Nat), .int .u64 (u : Nat)] 89))))); have w0 := le_cell HW.out.1 0 _ rfl; have w1 := le_cell HW.out.1 1 _ rfl; clear s0 s1 s2 hg)
    | (go_at_call 47; refine (bs_nil _ _ _ _ _).mono ?_; rintro r v2 ⟨rfl, hg⟩; have tA := (hg.block (lt_row HW.out.1)).trans HW.out.1; have uA := (hg.block (lt_row HW.out.2.1)).trans HW.out.2.1; have xA := (hg.block (lt_row HW.out.2.2.1)).trans HW.out.2.2.1; have HA := Lib.hid (And.intro tA (And.intro uA (And.intro xA (Gr.trans HW.out.2.2.2 hg)))); have a0 := le_cell tA 0 _ rfl; have a1 := le_cell tA 1 _ rfl; have a2 := le_cell xA 0 _ rfl; have a3 := le_cell xA 1 _ rfl; have a4 := le_cell xA 2 _ rfl; have a5 := le_cell (rowA tA (.cells #[.string q, .int .u64 (i : Nat), .int .u64 (u : Nat)] 89)) 0 _ rfl; have a6 := le_cell (rowA tA (.cells #[.string q, .int .u64 (i : Nat), .int .u64 (u : Nat)] 89)) 1 _ rfl; clear tA uA xA hg))
  go_region_law (first
    | (go_simp; go_at_call 43; refine (clone_nil _).mono ?_; rintro r v3 ⟨rfl, rfl⟩)
    | (go_simp; go_at_call 49; refine (ins_nil v2.heap.size (q, i, u) _ (by first | exact heap_alloc_last v2 _ | exact heap_alloc_last v2.drew _)).mono ?_; rintro r v4 ⟨A4, c4, rfl, ho, hg9⟩; have hg : Gr v2 v4 := (by first | exact Gr.trans (((Gr.refl v2).alloc _).drew) hg9 | exact Gr.trans (((Gr.refl v2).drew).alloc _) hg9); have tC := (hg.block (lt_row HA.out.1)).trans HA.out.1; have uC := (hg.block (lt_row HA.out.2.1)).trans HA.out.2.1; have HC := Lib.hid (And.intro tC (And.intro uC (Gr.trans HA.out.2.2.2 hg))); have c0 := le_cell tC 0 _ rfl; have c1 := le_cell tC 1 _ rfl; have d0' := frozen_of_row _ _ 0 _ _ tC; have d1' := frozen_of_row _ _ 1 _ _ tC; have f0 := le_cell uC 0 _ rfl; have f1 := le_cell uC 1 _ rfl; have g0' := frozen_of_row _ _ 0 _ _ uC; have g1' := frozen_of_row _ _ 1 _ _ uC; have HO := Lib.hid (Own.lower ho (b2 := v2.heap.size) (by first | exact ((Gr.refl v2).alloc _).drew.size | exact ((Gr.refl v2).drew.alloc _).size)); clear tC uC hg hg9 ho))
  all_goals
    have HE := Lib.hid (lend_end (S := .slice A4 1 c4) HC.out.2.2 HC.out.1 HC.out.2.1 (lt_row HA.out.2.1) HO.out)
    have y0 := le_cell (heap_setCell_same _ _ 1 _ _ (.slice A4 1 c4) HC.out.1) 0 _ rfl
    have y1 := le_cell (heap_setCell_same _ _ 1 _ _ (.slice A4 1 c4) HC.out.1) 1 _ rfl
    have hr := (heap_setCell_other v4 ⟨w.heap.size, 1, none⟩ (w.heap.size + 1 + 1) (.slice A4 1 c4) (by show w.heap.size + 1 + 1 ≠ w.heap.size; omega)).trans HC.out.2.1
    have z0 := le_cell hr 0 _ rfl
    have z1 := le_cell hr 1 _ rfl
    have fz0 := frozen_of_row _ _ 0 _ _ hr
    have fz1 := frozen_of_row _ _ 1 _ _ hr
    clear hr c0 c1 d0' d1' f0 f1 g0' g1'
    generalize v4.setCell ⟨w.heap.size, 1, none⟩ (.slice A4 1 c4) = U at *
    go_wp2
    refine bodyPost_ret (results_cell_row rfl _ _ (w.heap.size + 1 + 1) _ #[.func (.func 8) #[] #[], .slice A4 1 c4] (0, 0) (.struct _) rfl HE.out.1 Try.underlying51 rfl (by kernel_rfl)) rfl ⟨A4, c4, rfl, HE.out.2.1, HE.out.2.2⟩
end Go.Proofs.Ytmclhhlekblkeaa
