/- The law TopicAll: the walk, at any key. -/
import Derived.Test.YtdpildbdbbfamaaDoorTopicAllWalk
import Derived.Deep.RegionLaw
namespace Go.Proofs.YtdpildbdbbfamaaDoor
open Go.RowKit Go.Shelf
set_option linter.unusedVariables false
set_option linter.unusedSimpArgs false
set_option maxRecDepth 100000
set_option maxHeartbeats 4000000
attribute [local go_sem] Oper.semAt_some
theorem walk_TopicAll0 (p : List UInt8) (w : World) (hm : ∃ m, w.cell? ⟨0, 0, none⟩ = some (.int .i64 m)) : Calls Tryd.prog 4 #[.string (B p), .string (B [])] w fun e w' => e = .returned (.bool true) ∧ Gr w w' := by
  have cA := Lib.hid (law20_awake w hm)
  have hlw : 0 < w.heap.size := by
    obtain ⟨m, hm⟩ := hm
    exact block_lt_of_cell hm
  obtain ⟨m, hm⟩ := hm
  have hszp : ((B p).size : Int) ≤ 2000 → p.length ≤ 2000 := by rw [B_size]; omega
  have cK := fun w1 hs h => Lib.hid (tp_key [] hs w1 h)
  have cP := fun w1 hs h => Lib.hid (tp_pattern p hs w1 h)
  have cW := fun w1 => Lib.hid (tp_words0 w1)
  have hE : B [] = ⟨#[]⟩ := rfl
  rw [hE] at cK
  rw [hE]
  have hz0 : (⟨#[]⟩ : ByteArray).size = 0 := rfl
  have HSP := Lib.hid hszp
  clear hszp
  generalize keyB [] = kb at *
  generalize patB p = pb at *
  refine (callsIn_wide (n := 8)).1 ?_
  refine callsIn_of_wp_marks Tryd.func4 rfl trivial ?_ rfl
  simp only [Tryd.ntmps4, List.size_toArray, List.length_cons, List.length_nil, Nat.reduceAdd, Nat.reduceSub, Array.replicate_succ, Array.replicate_zero, List.push_toArray, List.append_toArray, List.nil_append, List.cons_append]
  gi_wp2_with (first
    | (refine ⟨trivial, ?_⟩; gi_at_call 6; refine (callsIn_wide.2 cA.out).mono ?_; clear cA; rintro e w1 ⟨rfl, hg⟩; have H1 := Lib.hid hg; have hm1 := hg.cells hm; clear hg)
    | (have hlp := HSP.out (by first | assumption | omega | (simp at *; omega)); refine ⟨trivial, ?_⟩; gi_at_call 12; refine (callsIn_wide.2 (cK _ (by decide) ⟨m, hm1⟩).out).mono ?_; clear cK; rintro e w2 ⟨rfl, hg⟩; have H2 := Lib.hid (H1.out.trans hg); have hm2 := hg.cells hm1; clear hg)
    | (refine ⟨trivial, ?_⟩; gi_at_call 13; refine (callsIn_wide.2 (cP _ (by omega) ⟨m, hm2⟩).out).mono ?_; clear cP; rintro e w3 ⟨rfl, hg⟩; have H3 := Lib.hid (H2.out.trans hg); have hm3 := hg.cells hm2; clear hg)
    | (refine ⟨trivial, ?_⟩; gi_at_call 14; refine (callsIn_wide.2 (cW _).out).mono ?_; clear cW; rintro e w4 ⟨rfl, he⟩)
    | (refine ⟨trivial, ?_⟩))
  all_goals first | (refine ⟨_, results_tmp rfl _ _ _, rfl, ?_⟩; first | exact H3.out | exact H2.out | exact H1.out) | skip
  have r0 : (w3.alloc (.cells #[.string ⟨#[]⟩] 9)).heap[w3.heap.size]? = some (.cells #[.string ⟨#[]⟩] 9 (0, 0)) := heap_alloc_last w3 _
  rw [he] at r0
  have hgv : Gr w w4 := by
    have h : Gr w (w3.alloc (.cells #[.string ⟨#[]⟩] 9)) := H3.out.alloc _
    rw [he] at h
    exact h
  have hw3 : w.heap.size ≤ w3.heap.size := H3.out.size
  have hs34 : w3.heap.size < w4.heap.size := (Array.getElem?_eq_some_iff.1 r0).1
  clear he
  refine wpIn_rangeFunc_ownG rfl (by omega) (gf := 32) (lb := #[]) rfl trivial (enters_of Tryd.func32 (by kernel_rfl) rfl)
    (tp_stops0 (8 - 1) w4.heap.size _) belowK_t (belowK_b (Nat.le_refl _)) (Below.refl _ _) (fun _ => rfl)
    (fun pre W => Boxed W w3.heap.size 9 (.string ⟨#[]⟩) ∧ Gr w W)
    (fun _ _ _ => False) ?own
    (fun _ _ _ _ _ hs _ _ => hs)
    ⟨r0, hgv⟩
    (fun x => { tmps := #[.string (B p), .string ⟨#[]⟩, undef, undef, .bool false, .pointer (some ⟨w3.heap.size, 0, none⟩), .bool true, .bool false, .string (B p), .int .i64 ((B p).size : Int), .bool (decide (2000 < ((B p).size : Int))), .bool (decide (2000 < ((B p).size : Int))), .string ⟨#[]⟩, .int .i64 0, .bool false, .bool ((decide (2000 < ((B p).size : Int)))), .bool ((decide (2000 < ((B p).size : Int)))), .string ⟨#[]⟩, .bool true, .bool false, .bool ((decide (2000 < ((B p).size : Int)))), .bool ((decide (2000 < ((B p).size : Int)))), .string (B p), .bool pb, .bool false, .bool ((decide (2000 < ((B p).size : Int)))), .string ⟨#[]⟩, .func (.func 32) #[] #[], .string x, undef, undef, undef, undef, undef, undef, undef, undef, undef, undef, undef, undef, undef, undef, undef, undef, undef, undef, undef, undef, undef, undef, undef, undef, undef, undef, undef, undef, undef, undef, undef, undef, undef, undef, undef, undef, undef, undef, undef, undef, undef, undef, undef, undef, undef, undef, undef, undef, undef], defers := [] }) ?assign ?body ?done ?stop
  case own =>
    rintro pre W W' row ⟨q2, q5⟩ hg hr
    have hr2 : ∀ r, row = some r → ∃ o : Obj, W.heap[r]? = some o ∧ o.isCells = false := fun r e => (hr r e).2
    have hbx : ∀ (b : Nat) (t : TypeId) (v : Value), Boxed W b t v → Boxed W' b t v := fun b t v h => h.kept hg (fun e => by obtain ⟨o, ho, hc⟩ := hr2 b e.symm; rw [show W.heap[b]? = _ from h] at ho; cases ho; cases hc)
    refine ⟨hbx _ _ _ q2, ?_⟩
    exact ⟨hg.os.trans (Below.os q5), hg.tape.trans (Below.tape q5), hg.output.trans (Below.output q5), Nat.le_trans (Below.size q5) hg.size, fun j hj => (hg.block j (Nat.lt_of_lt_of_le hj (Below.size q5)) (fun e => by have h1 := (hr j e.symm).1; have h2 := hgv.size; omega)).trans (Below.block q5 j hj)⟩
  case assign =>
    intro l x W K hK
    gi_wp2
    exact hK
  case body =>
    rintro l pre x W _ hlt
    omega
  case stop =>
    rintro D c pre W _ _ h _
    exact h.elim
  case done =>
    rintro D ys W hD rfl ⟨q1, q5⟩ hK
    have d3 := q1.cell
    have d4 := q1.frozen
    have cT := fun w1 => Lib.hid (Tryd.strings_TrimPrefix ⟨#[]⟩ ⟨#[46]⟩ w1)
    have htr : (⟨(Lib.trimPrefix (⟨#[]⟩ : ByteArray).data.toList (⟨#[46]⟩ : ByteArray).data.toList).toArray⟩ : ByteArray) = ⟨#[]⟩ := rfl
    rw [htr] at cT
    clear htr
    have hm2x : mtB [46, 42] [] = false := by decide
    have cM1 := fun w1 h => Lib.hid (tp_matchB [] [] (by decide) (by decide) w1 h)
    have cM2 := fun w1 h => Lib.hid (tp_matchB [35] [] (by decide) (by decide) w1 h)
    have cM4 := fun w1 h => Lib.hid (tp_matchB [46, 42] [] (by decide) (by decide) w1 h)
    have cM5 := fun w1 h => Lib.hid (tp_matchB p [] (by omega) (by decide) w1 h)
    have cM6 := fun w1 h => Lib.hid (tp_matchB (p ++ [46, 35]) [] (by rw [List.length_append]; simp; omega) (by decide) w1 h)
    have cM7 := fun w1 h => Lib.hid (tp_matchB ([35, 46] ++ p) [] (by rw [List.length_append]; simp; omega) (by decide) w1 h)
    rw [mtB_self] at cM1
    rw [mtB_all] at cM2
    rw [hm2x] at cM4
    rw [hE] at cM1 cM2 cM4 cM5 cM6 cM7
    have cM3 := cM1
    have hb6 := mtB_behind p []
    have hb7 := mtB_ahead p []
    have hep : (B p).toList.isEmpty = p.isEmpty := by rw [ByteArray.toList_eq]; rfl
    have hcp : (B p).toList = [] ↔ p = [] := by rw [ByteArray.toList_eq]; exact Iff.rfl
    generalize mtB (p ++ [46, 35]) [] = b6 at *
    generalize mtB ([35, 46] ++ p) [] = b7 at *
    generalize mtB p [] = b5 at *
    have hc1 : (⟨#[]⟩ : ByteArray) ++ ⟨#[46, 42]⟩ = B [46, 42] := B_app [] [46, 42]
    have hc2 : B p ++ ⟨#[46, 35]⟩ = B (p ++ [46, 35]) := B_app _ [46, 35]
    have hc3 : ⟨#[35, 46]⟩ ++ B p = B ([35, 46] ++ p) := B_app [35, 46] _
    have hz2 : (⟨#[46, 42]⟩ : ByteArray).size = 2 := rfl
    have hz3 : (⟨#[46, 35]⟩ : ByteArray).size = 2 := rfl
    have hz4 : (⟨#[35, 46]⟩ : ByteArray).size = 2 := rfl
    have hx1 : Boxed (W.setCell ⟨w3.heap.size, 0, none⟩ (.string ⟨#[]⟩)) w3.heap.size 9 (.string ⟨#[]⟩) := q1.set _
    have hxg : Gr w (W.setCell ⟨w3.heap.size, 0, none⟩ (.string ⟨#[]⟩)) := ((Ch.refl w3.heap.size W).setCell 0 _).gr q5 (by omega)
    have hxk : (W.setCell ⟨w3.heap.size, 0, none⟩ (.string ⟨#[]⟩)).heap[D]? = some (.deferred (some [])) := (heap_setCell_other _ _ _ _ (by show D ≠ w3.heap.size; omega)).trans hK
    have HX := Lib.hid (And.intro hx1 (And.intro hxg hxk))
    clear hx1 hxg hxk hm2x
    obtain ⟨em, hem⟩ : ∃ em, p.isEmpty = em := ⟨_, rfl⟩
    rw [hem] at hep
    have hbb : em = false → b5 = true → b6 = true ∧ b7 = true := fun h1 h2 => by
      have hp0 : p ≠ [] := by rintro rfl; rw [← hem] at h1; cases h1
      exact ⟨hb6 hp0 h2, hb7 hp0 h2⟩
    have hcp2 : ((B p).toList = []) = (em = true) := by
      rw [← hem, List.isEmpty_iff]
      exact propext hcp
    clear hem hb6 hb7 hcp
    cases b5 <;> cases em
    rotate_left 2
    obtain ⟨rfl, rfl⟩ := hbb rfl rfl
    all_goals clear hbb
    all_goals simp only [Bool.false_eq_true, eq_self] at hcp2
    all_goals gi_wp2_with (first
      | (refine ⟨trivial, ?_⟩; gi_at_call 15; refine (callsIn_wide.2 (cT _).out).mono ?_; clear cT; rintro e w5 ⟨rfl, rfl⟩)
      | (refine ⟨trivial, ?_⟩; gi_at_call 8; refine (callsIn_wide.2 (cM1 _ ⟨m, HX.out.2.1.cells hm⟩).out).mono ?_; clear cM1; rintro e y1 ⟨rfl, hg⟩; have HY1 := Lib.hid (ta_step HX.out hg); clear hg; have d_y1 := HY1.out.1.cell)
      | (refine ⟨trivial, ?_⟩; gi_at_call 8; refine (callsIn_wide.2 (cM2 _ ⟨m, HY1.out.2.1.cells hm⟩).out).mono ?_; clear cM2; rintro e y2 ⟨rfl, hg⟩; have HY2 := Lib.hid (ta_step HY1.out hg); clear hg; have d_y2 := HY2.out.1.cell)
      | (refine ⟨trivial, ?_⟩; gi_at_call 8; refine (callsIn_wide.2 (cM3 _ ⟨m, HY2.out.2.1.cells hm⟩).out).mono ?_; clear cM3; rintro e y3 ⟨rfl, hg⟩; have HY3 := Lib.hid (ta_step HY2.out hg); clear hg; have d_y3 := HY3.out.1.cell)
      | (refine ⟨trivial, ?_⟩; gi_at_call 8; refine (callsIn_wide.2 (cM4 _ ⟨m, HY3.out.2.1.cells hm⟩).out).mono ?_; clear cM4; rintro e y4 ⟨rfl, hg⟩; have HY4 := Lib.hid (ta_step HY3.out hg); clear hg; have d_y4 := HY4.out.1.cell)
      | (refine ⟨trivial, ?_⟩; gi_at_call 8; refine (callsIn_wide.2 (cM5 _ ⟨m, HY4.out.2.1.cells hm⟩).out).mono ?_; clear cM5; rintro e y5 ⟨rfl, hg⟩; have HY5 := Lib.hid (ta_step HY4.out hg); clear hg; have d_y5 := HY5.out.1.cell)
      | (refine ⟨trivial, ?_⟩; gi_at_call 8; refine (callsIn_wide.2 (cM6 _ ⟨m, HY5.out.2.1.cells hm⟩).out).mono ?_; clear cM6; rintro e y6 ⟨rfl, hg⟩; have HY6 := Lib.hid (ta_step HY5.out hg); clear hg; have d_y6 := HY6.out.1.cell)
      | (refine ⟨trivial, ?_⟩; gi_at_call 8; refine (callsIn_wide.2 (cM7 _ ⟨m, HY6.out.2.1.cells hm⟩).out).mono ?_; clear cM7; rintro e y7 ⟨rfl, hg⟩; have HY7 := Lib.hid (ta_step HY6.out hg); clear hg; have d_y7 := HY7.out.1.cell)
      | (refine ⟨trivial, ?_⟩))
    all_goals first
      | (refine ⟨by simp, .inl ⟨_, _, rfl, run_takeDeferred HY7.out.2.2, ?_⟩⟩; exact ⟨_, results_tmp rfl _ _ _, rfl, Below.trans HY7.out.2.1 (belowK_b (w := w) (Nat.le_refl _) _ D _ _ (by have h2 := hgv.size; omega) HY7.out.2.2 rfl rfl)⟩)
      | (refine ⟨by simp, .inl ⟨_, _, rfl, run_takeDeferred HY5.out.2.2, ?_⟩⟩; exact ⟨_, results_tmp rfl _ _ _, rfl, Below.trans HY5.out.2.1 (belowK_b (w := w) (Nat.le_refl _) _ D _ _ (by have h2 := hgv.size; omega) HY5.out.2.2 rfl rfl)⟩)
      | trace_state
theorem walk_TopicAll_ (p k : List UInt8) (w : World) (hm : ∃ m, w.cell? ⟨0, 0, none⟩ = some (.int .i64 m)) : Calls Tryd.prog 4 #[.string (B p), .string (B k)] w fun e w' => e = .returned (.bool true) ∧ Gr w w' := by
  by_cases h : k = []
  · subst h
    exact walk_TopicAll0 p w hm
  · exact walk_TopicAll1 p k h w hm
theorem walk_TopicAll {w : World} (p : ByteArray) (wp : p.size ≤ maxLen) (k : ByteArray) (wk : k.size ≤ maxLen) (hml : ∃ m, w.cell? ⟨0, 0, none⟩ = some (.int .i64 m)) :
    Calls Tryd.prog 4 #[.string p, .string k] w fun e w' => e = .returned (.bool true) ∧ Gr w w' := by
  obtain ⟨P, rfl⟩ : ∃ S, p = B S := ⟨p.data.toList, rfl⟩
  obtain ⟨K, rfl⟩ : ∃ S, k = B S := ⟨k.data.toList, rfl⟩
  exact walk_TopicAll_ P K w hml
end Go.Proofs.YtdpildbdbbfamaaDoor
