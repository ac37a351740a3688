/- The law TopicAll: the walk, at a key that is not empty. -/
import Derived.Test.YtdpildbdbbfamaaDoorTpLaw
import Derived.Test.YtdpildbdbbfamaaDoorTpKey
import Derived.Test.YtdpildbdbbfamaaDoorTpAllM
import Derived.Test.YtdpildbdbbfamaaDoorTpRKey
import Derived.Deep.RegionLaw
namespace Go.Proofs.YtdpildbdbbfamaaDoor
open Go.RowKit Go.Shelf
set_option linter.unusedVariables false
set_option linter.unusedSimpArgs false
set_option maxRecDepth 100000
set_option maxHeartbeats 4000000
attribute [local go_sem] Oper.semAt_some
theorem tp_matchB (p k : List UInt8) (hp : p.length ≤ 4000) (hk : k.length ≤ 4000) (w : World) (hm : ∃ m, w.cell? ⟨0, 0, none⟩ = some (.int .i64 m)) : Calls Tryd.prog 8 #[.string (B p), .string (B k)] w fun r w' => r = .returned (.bool (mtB p k)) ∧ Gr w w' := by
  have h := tp_matchA p k hp hk w hm
  rw [mt_U] at h
  exact h
theorem ta_step {w0 w w6 : World} {b D : Nat} {t : TypeId} {v : Value} (h : Boxed w b t v ∧ Gr w0 w ∧ w.heap[D]? = some (.deferred (some []))) (hg : Gr w w6) : Boxed w6 b t v ∧ Gr w0 w6 ∧ w6.heap[D]? = some (.deferred (some [])) :=
  ⟨(hg.block (Array.getElem?_eq_some_iff.1 h.1).1).trans h.1, h.2.1.trans hg, (hg.block (Array.getElem?_eq_some_iff.1 h.2.2).1).trans h.2.2⟩
theorem walk_TopicAll1 (p k : List UInt8) (hne : k ≠ []) (w : World) (hm : ∃ m, w.cell? ⟨0, 0, none⟩ = some (.int .i64 m)) : Calls Tryd.prog 4 #[.string (B p), .string (B k)] w fun e w' => e = .returned (.bool true) ∧ Gr w w' := by
  have cA := Lib.hid (law20_awake w hm)
  have hlw : 0 < w.heap.size := by
    obtain ⟨m, hm⟩ := hm
    exact block_lt_of_cell hm
  obtain ⟨m, hm⟩ := hm
  have hszp : ((B p).size : Int) ≤ 2000 → p.length ≤ 2000 := by rw [B_size]; omega
  have hszk : ((B k).size : Int) ≤ 2000 → k.length ≤ 2000 := by rw [B_size]; omega
  have cK := fun w1 hs h => Lib.hid (tp_key k hs w1 h)
  have cP := fun w1 hs h => Lib.hid (tp_pattern p hs w1 h)
  have cW := fun w1 h => Lib.hid (tp_wordsW k w1 h)
  have HSP := Lib.hid hszp
  have HSK := Lib.hid hszk
  clear hszp hszk
  have HK8 : Hid (keyB k = true → (wordsL k).length ≤ 8) := fun h => by
    unfold keyB allB at h
    simp only [Bool.and_eq_true, decide_eq_true_eq] at h
    exact h.1
  generalize keyB k = kb at *
  generalize patB p = pb at *
  refine (callsIn_wide (n := 8)).1 ?_
  refine callsIn_of_wp_marks Tryd.func4 rfl trivial ?_ rfl
  simp only [Tryd.ntmps4, List.size_toArray, List.length_cons, List.length_nil, Nat.reduceAdd, Nat.reduceSub, Array.replicate_succ, Array.replicate_zero, List.push_toArray, List.append_toArray, List.nil_append, List.cons_append]
  gi_wp2_with (first
    | (refine ⟨trivial, ?_⟩; gi_at_call 6; refine (callsIn_wide.2 cA.out).mono ?_; clear cA; rintro e w1 ⟨rfl, hg⟩; have H1 := Lib.hid hg; have hm1 := hg.cells hm; clear hg)
    | (have hlp := HSP.out (by first | assumption | omega | (simp at *; omega)); have hlk := HSK.out (by first | assumption | omega | (simp at *; omega)); refine ⟨trivial, ?_⟩; gi_at_call 12; refine (callsIn_wide.2 (cK _ (by omega) ⟨m, hm1⟩).out).mono ?_; clear cK; rintro e w2 ⟨rfl, hg⟩; have H2 := Lib.hid (H1.out.trans hg); have hm2 := hg.cells hm1; clear hg)
    | (refine ⟨trivial, ?_⟩; gi_at_call 13; refine (callsIn_wide.2 (cP _ (by omega) ⟨m, hm2⟩).out).mono ?_; clear cP; rintro e w3 ⟨rfl, hg⟩; have H3 := Lib.hid (H2.out.trans hg); have hm3 := hg.cells hm2; clear hg)
    | (refine ⟨trivial, ?_⟩; gi_at_call 14; refine (callsIn_wide.2 (cW _ ⟨m, ((Gr.refl _).alloc _).cells hm3⟩).out).mono ?_; clear cW; rintro e w4 ⟨vW, rfl, hwd, hg⟩; obtain ⟨Bp, Bs, Bv, rfl, hnx, hbs, hsp⟩ := hwd.ne hne; have H4 := Lib.hid (And.intro hnx (And.intro hbs (And.intro hsp hg))); clear hg hwd hnx hbs hsp)
    | (refine ⟨trivial, ?_⟩))
  all_goals first | (refine ⟨_, results_tmp rfl _ _ _, rfl, ?_⟩; first | exact H3.out | exact H2.out | exact H1.out) | skip
  have hwk : wordsL k = splitW k := if_neg hne
  obtain ⟨W0, hW0⟩ : ∃ W0, W0 = w3.alloc (.cells #[.string ⟨#[]⟩] 9) := ⟨_, rfl⟩
  rw [← hW0] at H4
  have r0 : W0.heap[w3.heap.size]? = some (.cells #[.string ⟨#[]⟩] 9 (0, 0)) := by rw [hW0]; exact heap_alloc_last w3 _
  have hW0s : w3.heap.size + 1 = W0.heap.size := by rw [hW0, alloc_size]
  have hgW0 : Gr w W0 := by rw [hW0]; exact H3.out.alloc _
  clear hW0
  have hgv : Gr w w4 := hgW0.trans H4.out.2.2.2
  have hw3 : w.heap.size ≤ w3.heap.size := H3.out.size
  have hbB : w3.heap.size < Bs ∧ w3.heap.size < Bp ∧ w3.heap.size < Bv := by
    have h2 := H4.out.2.1
    omega
  have hb0 : Boxed w4 w3.heap.size 9 (.string (B (stars 0))) := (H4.out.2.2.2.block (Array.getElem?_eq_some_iff.1 r0).1).trans r0
  have h5sz : Bs < w4.heap.size ∧ Bp < w4.heap.size ∧ Bv < w4.heap.size := ⟨(Array.getElem?_eq_some_iff.1 H4.out.2.2.1.s).1, (Array.getElem?_eq_some_iff.1 H4.out.2.2.1.p).1, (Array.getElem?_eq_some_iff.1 H4.out.2.2.1.v).1⟩
  clear r0
  have hlen : (splitW k).length ≤ 8 := by
    have h := HK8.out (by assumption)
    rw [hwk] at h
    exact h
  refine range_split 8 (by omega) Bp Bs Bv H4.out.1 k (by omega) rfl rfl H4.out.2.2.1
    (fun pre W => Boxed W w3.heap.size 9 (.string (B (stars pre.length))) ∧ Gr w W ∧ w4.heap.size ≤ W.heap.size ∧ W.cell? ⟨0, 0, none⟩ = some (.int .i64 m))
    ?own ?set ⟨hb0, hgv, Nat.le_refl _, hgv.cells hm⟩
    (fun x a' _ => a' = { tmps := #[.string (B p), .string (B k), undef, undef, .bool false, .pointer (some ⟨w3.heap.size, 0, none⟩), .bool true, .bool false, .string (B p), .int .i64 ((B p).size : Int), .bool (decide (2000 < ((B p).size : Int))), .bool (decide (2000 < ((B p).size : Int))), .string (B k), .int .i64 ((B k).size : Int), .bool (decide (2000 < ((B k).size : Int))), .bool ((decide (2000 < ((B p).size : Int))) || (decide (2000 < ((B k).size : Int)))), .bool ((decide (2000 < ((B p).size : Int))) || (decide (2000 < ((B k).size : Int)))), .string (B k), .bool true, .bool false, .bool ((decide (2000 < ((B p).size : Int))) || (decide (2000 < ((B k).size : Int)))), .bool ((decide (2000 < ((B p).size : Int))) || (decide (2000 < ((B k).size : Int)))), .string (B p), .bool pb, .bool false, .bool ((decide (2000 < ((B p).size : Int))) || (decide (2000 < ((B k).size : Int)))), .string (B k), .func (.func 47) #[] #[.pointer (some ⟨Bp, 0, none⟩), .pointer (some ⟨Bs, 0, none⟩), .pointer (some ⟨Bv, 0, none⟩)], .string x, undef, undef, undef, undef, undef, undef, undef, undef, undef, undef, undef, undef, undef, undef, undef, undef, undef, undef, undef, undef, undef, undef, undef, undef, undef, undef, undef, undef, undef, undef, undef, undef, undef, undef, undef, undef, undef, undef, undef, undef, undef, undef, undef, undef, undef, undef, undef, undef, undef], defers := [] })
    (fun _ _ _ _ _ _ h _ _ => h) ?assign ?body ?done
  case own =>
    rintro pre W W' row ⟨q1, q5, q6, q7⟩ hg hr
    have hr2 : ∀ r, row = some r → ∃ o : Obj, W.heap[r]? = some o ∧ o.isCells = false := fun r e => (hr r e).2
    have hbx : ∀ (b : Nat) (t : TypeId) (v : Value), Boxed W b t v → Boxed W' b t v := fun b t v h => h.kept hg (fun e => by obtain ⟨o, ho, hc⟩ := hr2 b e.symm; rw [show W.heap[b]? = _ from h] at ho; cases ho; cases hc)
    have hG2 : Gr w W' := ⟨hg.os.trans (Below.os q5), hg.tape.trans (Below.tape q5), hg.output.trans (Below.output q5), Nat.le_trans (Below.size q5) hg.size, fun j hj => (hg.block j (Nat.lt_of_lt_of_le hj (Below.size q5)) (fun e => by have h1 := (hr j e.symm).1; have h2 := hgv.size; omega)).trans (Below.block q5 j hj)⟩
    exact ⟨hbx _ _ _ q1, hG2, Nat.le_trans q6 hg.size, hG2.cells hm⟩
  case set =>
    rintro pre W u ⟨q1, q5, q6, q7⟩
    have hG2 : Gr w (W.setCell ⟨Bs, 0, none⟩ u) := ((Ch.refl Bs W).setCell 0 u).gr q5 (by omega)
    exact ⟨q1.other (by omega) u, hG2, by rw [setCell_size]; exact q6, hG2.cells hm⟩
  case assign =>
    intro l pre x r W K hi hb hK
    gi_wp2
    exact hK _ _ (KeepsFrom.refl _ _) hi hb rfl
  case body =>
    rintro l pre x a' r W hl9 ⟨q1, q5, q6, q7⟩ hb rfl hlt
    have d3 := q1.cell
    have d4 := q1.frozen
    have hcat : B (stars pre.length) ++ ⟨#[46, 42]⟩ = B (stars (pre.length + 1)) := B_app _ [46, 42]
    have hz1 := B_size (stars pre.length)
    rw [stars_len] at hz1
    have hz2 : (⟨#[46, 42]⟩ : ByteArray).size = 2 := rfl
    have hG2 : Gr w (W.setCell ⟨w3.heap.size, 0, none⟩ (.string (B (stars (pre.length + 1))))) := ((Ch.refl w3.heap.size W).setCell 0 _).gr q5 (by omega)
    have HQ := Lib.hid (And.intro q1 (And.intro q5 (And.intro q6 (And.intro hb hG2))))
    clear q1 q5 q6 hb hG2
    have hl1 : ∀ x : ByteArray, (pre ++ [x]).length = pre.length + 1 := fun x => by simp
    gi_wp2
    exact ⟨((KeepsOthers.setCell _ _ _).from _), ⟨by rw [hl1]; exact HQ.out.1.set _, HQ.out.2.2.2.2, by rw [setCell_size]; exact HQ.out.2.2.1, HQ.out.2.2.2.2.cells hm⟩, HQ.out.2.2.2.1.other (by omega) _⟩
  case done =>
    rintro D W hD ⟨q1, q5, q6, q7⟩ hK
    rw [List.length_map] at q1
    obtain ⟨n, hn⟩ : ∃ n, (splitW k).length = n := ⟨_, rfl⟩
    rw [hn] at q1 hlen
    have hn0 : n ≠ 0 := by
      rw [← hn, ← hwk]
      exact words_zero k hne
    have d3 := q1.cell
    have d4 := q1.frozen
    have htr : (⟨(Lib.trimPrefix (B (stars n)).data.toList (⟨#[46]⟩ : ByteArray).data.toList).toArray⟩ : ByteArray) = B ((stars n).drop 1) := by
      obtain ⟨n', rfl⟩ : ∃ n', n = n' + 1 := ⟨n - 1, by omega⟩
      obtain ⟨r, hr⟩ := stars_head n'
      rw [hr]
      rfl
    have cT := fun w1 => Lib.hid (Tryd.strings_TrimPrefix (B (stars n)) ⟨#[46]⟩ w1)
    rw [htr] at cT
    clear htr
    have hm1x : mtB ((stars n).drop 1) k = true := by
      have h := mtB_stars k
      rw [hwk, hn] at h
      exact h
    have hm2x : mtB ((stars n).drop 1 ++ [46, 42]) k = false := by
      have h := mtB_more k hne
      rw [hwk, hn] at h
      exact h
    have hsl : ((stars n).drop 1).length ≤ 100 := by
      rw [List.length_drop, stars_len]
      omega
    have hslp : ((stars n).drop 1 ++ [46, 42]).length ≤ 100 := by
      rw [List.length_append, List.length_drop, stars_len]
      simp
      omega
    have cM1 := fun w1 h => Lib.hid (tp_matchB k k (by omega) (by omega) w1 h)
    have cM2 := fun w1 h => Lib.hid (tp_matchB [35] k (by decide) (by omega) w1 h)
    have cM3 := fun w1 h => Lib.hid (tp_matchB ((stars n).drop 1) k (by omega) (by omega) w1 h)
    have cM4 := fun w1 h => Lib.hid (tp_matchB ((stars n).drop 1 ++ [46, 42]) k (by omega) (by omega) w1 h)
    have cM5 := fun w1 h => Lib.hid (tp_matchB p k (by omega) (by omega) w1 h)
    have cM6 := fun w1 h => Lib.hid (tp_matchB (p ++ [46, 35]) k (by rw [List.length_append]; simp; omega) (by omega) w1 h)
    have cM7 := fun w1 h => Lib.hid (tp_matchB ([35, 46] ++ p) k (by rw [List.length_append]; simp; omega) (by omega) w1 h)
    rw [mtB_self] at cM1
    rw [mtB_all] at cM2
    rw [hm1x] at cM3
    rw [hm2x] at cM4
    have hb6 := mtB_behind p k
    have hb7 := mtB_ahead p k
    have hep : (B p).toList.isEmpty = p.isEmpty := by rw [ByteArray.toList_eq]; rfl
    have hcp : (B p).toList = [] ↔ p = [] := by rw [ByteArray.toList_eq]; exact Iff.rfl
    generalize mtB (p ++ [46, 35]) k = b6 at *
    generalize mtB ([35, 46] ++ p) k = b7 at *
    generalize mtB p k = b5 at *
    have hc1 : B ((stars n).drop 1) ++ ⟨#[46, 42]⟩ = B ((stars n).drop 1 ++ [46, 42]) := B_app _ [46, 42]
    have hc2 : B p ++ ⟨#[46, 35]⟩ = B (p ++ [46, 35]) := B_app _ [46, 35]
    have hc3 : ⟨#[35, 46]⟩ ++ B p = B ([35, 46] ++ p) := B_app [35, 46] _
    have hz2 : (⟨#[46, 42]⟩ : ByteArray).size = 2 := rfl
    have hz3 : (⟨#[46, 35]⟩ : ByteArray).size = 2 := rfl
    have hz4 : (⟨#[35, 46]⟩ : ByteArray).size = 2 := rfl
    have hz1 := B_size ((stars n).drop 1)
    generalize hst : (stars n).drop 1 = st at *
    have hx1 : Boxed (W.setCell ⟨w3.heap.size, 0, none⟩ (.string (B st))) w3.heap.size 9 (.string (B st)) := q1.set _
    have hxg : Gr w (W.setCell ⟨w3.heap.size, 0, none⟩ (.string (B st))) := ((Ch.refl w3.heap.size W).setCell 0 _).gr q5 (by omega)
    have hxk : (W.setCell ⟨w3.heap.size, 0, none⟩ (.string (B st))).heap[D]? = some (.deferred (some [])) := (heap_setCell_other _ _ _ _ (by show D ≠ w3.heap.size; omega)).trans hK
    have HX := Lib.hid (And.intro hx1 (And.intro hxg hxk))
    clear hx1 hxg hxk hm1x hm2x
    obtain ⟨em, hem⟩ : ∃ em, p.isEmpty = em := ⟨_, rfl⟩
    rw [hem] at hep
    have hbb : em = false → b5 = true → b6 = true ∧ b7 = true := fun h1 h2 => by
      have hp0 : p ≠ [] := by rintro rfl; rw [← hem] at h1; cases h1
      exact ⟨hb6 hp0 h2, hb7 hp0 h2⟩
    have hcp2 : ((B p).toList = []) = (em = true) := by
      rw [← hem, List.isEmpty_iff]
      exact propext hcp
    clear hem hb6 hb7 hcp
    cases b5 <;> cases em
    rotate_left 2
    obtain ⟨rfl, rfl⟩ := hbb rfl rfl
    all_goals clear hbb
    all_goals simp only [Bool.false_eq_true, eq_self] at hcp2
    all_goals gi_wp2_with (first
      | (refine ⟨trivial, ?_⟩; gi_at_call 15; refine (callsIn_wide.2 (cT _).out).mono ?_; clear cT; rintro e w5 ⟨rfl, rfl⟩)
      | (refine ⟨trivial, ?_⟩; gi_at_call 8; refine (callsIn_wide.2 (cM1 _ ⟨m, HX.out.2.1.cells hm⟩).out).mono ?_; clear cM1; rintro e y1 ⟨rfl, hg⟩; have HY1 := Lib.hid (ta_step HX.out hg); clear hg; have d_y1 := HY1.out.1.cell)
      | (refine ⟨trivial, ?_⟩; gi_at_call 8; refine (callsIn_wide.2 (cM2 _ ⟨m, HY1.out.2.1.cells hm⟩).out).mono ?_; clear cM2; rintro e y2 ⟨rfl, hg⟩; have HY2 := Lib.hid (ta_step HY1.out hg); clear hg; have d_y2 := HY2.out.1.cell)
      | (refine ⟨trivial, ?_⟩; gi_at_call 8; refine (callsIn_wide.2 (cM3 _ ⟨m, HY2.out.2.1.cells hm⟩).out).mono ?_; clear cM3; rintro e y3 ⟨rfl, hg⟩; have HY3 := Lib.hid (ta_step HY2.out hg); clear hg; have d_y3 := HY3.out.1.cell)
      | (refine ⟨trivial, ?_⟩; gi_at_call 8; refine (callsIn_wide.2 (cM4 _ ⟨m, HY3.out.2.1.cells hm⟩).out).mono ?_; clear cM4; rintro e y4 ⟨rfl, hg⟩; have HY4 := Lib.hid (ta_step HY3.out hg); clear hg; have d_y4 := HY4.out.1.cell)
      | (refine ⟨trivial, ?_⟩; gi_at_call 8; refine (callsIn_wide.2 (cM5 _ ⟨m, HY4.out.2.1.cells hm⟩).out).mono ?_; clear cM5; rintro e y5 ⟨rfl, hg⟩; have HY5 := Lib.hid (ta_step HY4.out hg); clear hg; have d_y5 := HY5.out.1.cell)
      | (refine ⟨trivial, ?_⟩; gi_at_call 8; refine (callsIn_wide.2 (cM6 _ ⟨m, HY5.out.2.1.cells hm⟩).out).mono ?_; clear cM6; rintro e y6 ⟨rfl, hg⟩; have HY6 := Lib.hid (ta_step HY5.out hg); clear hg; have d_y6 := HY6.out.1.cell)
      | (refine ⟨trivial, ?_⟩; gi_at_call 8; refine (callsIn_wide.2 (cM7 _ ⟨m, HY6.out.2.1.cells hm⟩).out).mono ?_; clear cM7; rintro e y7 ⟨rfl, hg⟩; have HY7 := Lib.hid (ta_step HY6.out hg); clear hg; have d_y7 := HY7.out.1.cell)
      | (refine ⟨trivial, ?_⟩))
    all_goals first
      | (refine ⟨by simp, .inl ⟨_, _, rfl, run_takeDeferred HY7.out.2.2, ?_⟩⟩; exact ⟨_, results_tmp rfl _ _ _, rfl, Below.trans HY7.out.2.1 (belowK_b (w := w) (Nat.le_refl _) _ D _ _ (by have h2 := hgv.size; omega) HY7.out.2.2 rfl rfl)⟩)
      | (refine ⟨by simp, .inl ⟨_, _, rfl, run_takeDeferred HY5.out.2.2, ?_⟩⟩; exact ⟨_, results_tmp rfl _ _ _, rfl, Below.trans HY5.out.2.1 (belowK_b (w := w) (Nat.le_refl _) _ D _ _ (by have h2 := hgv.size; omega) HY5.out.2.2 rfl rfl)⟩)
      | trace_state
end Go.Proofs.YtdpildbdbbfamaaDoor
