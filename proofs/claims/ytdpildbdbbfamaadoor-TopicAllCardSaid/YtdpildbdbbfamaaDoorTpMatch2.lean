/- Layer 20: Match at an empty pattern; Match. -/
import Derived.Test.YtdpildbdbbfamaaDoorTpMatch
namespace Go.Proofs.YtdpildbdbbfamaaDoor
open Go.RowKit Go.Shelf
set_option linter.unusedVariables false
set_option linter.unusedSimpArgs false
set_option maxRecDepth 100000
set_option maxHeartbeats 2000000
attribute [local go_sem] Oper.semAt_some
theorem WdAt.eq0 {base : Nat} {w : World} {v : Value} (h : WdAt base w v []) : v = .func (.func 32) #[] #[] := by
  rcases h with ⟨_, h⟩ | ⟨h, _⟩
  · exact h
  · exact absurd rfl h
theorem tp_match0 (k : List UInt8) (hk : k.length ≤ 4000) (w : World) (hm : ∃ m, w.cell? ⟨0, 0, none⟩ = some (.int .i64 m)) : Calls Tryd.prog 8 #[.string (B []), .string (B k)] w fun r w' => r = .returned (.bool (mtL [] ((wordsL k).map B))) ∧ Gr w w' := by
  have cW1 := fun w1 h => Lib.hid (tp_wordsW k w1 h)
  have cW2 := fun w1 h => Lib.hid (tp_wordsW [] w1 h)
  have cC := fun base v w1 (h : WdAt base w1 v k) hb hg => Lib.hid (tp_collectW k hk base v w w1 h hb hg)
  have hlw : (wordsL k).length ≤ 4001 := by
    unfold wordsL
    split
    · simp
    · have h1 := split_len k
      have h2 : k.count 46 ≤ k.length := List.count_le_length
      omega
  have hmk : ∀ w1, (Instr.makeSlice 39 (.int .i64 (((wordsL k).length : Int) + 1)) (.int .i64 (((wordsL k).length : Int) + 1))).run Tryd.prog w1 = .ok (.slice (some ⟨w1.heap.size, 0, none⟩) ((wordsL k).length + 1) ((wordsL k).length + 1)) (w1.alloc (.cells (madeCells #[.bool false] ((wordsL k).length + 1)) 4)) := fun w1 => by
    have h := run_make_row' (P := Tryd.prog) 39 4 (.bool false) 1 Tryd.underlying39 tp_info_bool rfl .i64 .i64 ((wordsL k).length + 1) (by omega) (by omega) w1
    rw [Int.natCast_add] at h
    exact h
  have hw : IntKind.i64.wrap (((wordsL k).length : Int) + 1) = ((wordsL k).length : Int) + 1 := by rw [IntKind.wrap_i64]; omega
  refine (callsIn_wide (n := 8)).1 ?_
  refine callsIn_of_wp_marks Tryd.func8 rfl trivial ?_ rfl
  simp only [Tryd.ntmps8, List.size_toArray, List.length_cons, List.length_nil, Nat.reduceAdd, Nat.reduceSub, Array.replicate_succ, Array.replicate_zero, List.push_toArray, List.append_toArray, List.nil_append, List.cons_append]
  generalize hn : (wordsL k).length = n at *
  gi_wp2_with (first
    | (refine ⟨trivial, ?_⟩; gi_at_call 21; refine (callsIn_wide.2 (cC _ _ _ HK.out.1 (Nat.le_refl _) HK.out.2).out).mono ?_; clear cC; rintro e v2 ⟨AK, cK, rfl, hsl, hg⟩; have HC := Lib.hid (tp_start (n := n) (cK := cK) hsl hg); have HC2 := Lib.hid (And.intro hsl hg); obtain ⟨c0, hc0⟩ := HC.out.1; have hf0 := HC.out.2.1; clear hsl hg)
    | (refine ⟨trivial, ?_⟩; gi_at_call 14; refine (callsIn_wide.2 (cW1 _ hm).out).mono ?_; clear cW1; rintro e v1 ⟨vK, rfl, hK1, hg⟩; have HK := Lib.hid (And.intro hK1 hg); clear hK1 hg)
    | (refine ⟨trivial, ?_⟩; gi_at_call 14; refine (callsIn_wide.2 (cW2 _ (by obtain ⟨m, hm⟩ := hm; exact ⟨m, HC.out.2.2.1.cells hm⟩)).out).mono ?_; clear cW2; rintro e v5 ⟨vP, rfl, hP, hg⟩; obtain rfl := hP.eq0; have H5 := Lib.hid hg; clear hP hg))
  have hnw : ((wordsL k).map B).length = n := by rw [List.length_map]; exact hn
  generalize hws : (wordsL k).map B = ws at *
  have HWS := Lib.hid hws
  clear hws
  have hgv : Gr v2 v5 := Gr.trans ((((Gr.refl v2).alloc _).alloc _).alloc _) H5.out
  have hat5 : SliceAt v5 (some ⟨v2.heap.size + 1, 0, none⟩) 1 blCell (bsOf ws []) := by
    have h := HC.out.2.2.2.2.1.gr H5.out
    rw [← hnw, bsOf_nil] at h
    exact h
  have hb0 : Boxed v5 v2.heap.size 32 (.slice AK n cK) := (H5.out.block (Array.getElem?_eq_some_iff.1 HC.out.2.2.2.2.2.1).1).trans HC.out.2.2.2.2.2.1
  have hb2 : Boxed v5 (v2.heap.size + 1 + 1) 39 (.slice (some ⟨v2.heap.size + 1, 0, none⟩) (n + 1) (n + 1)) := (H5.out.block (Array.getElem?_eq_some_iff.1 HC.out.2.2.2.2.2.2.1).1).trans HC.out.2.2.2.2.2.2.1
  refine wpIn_rangeFunc_ownG rfl (by omega) (gf := 32) (lb := #[]) rfl trivial (enters_of Tryd.func32 (by kernel_rfl) rfl)
    (tp_stops0 (8 - 1) v5.heap.size v5) belowK_t (belowK_b (Nat.le_refl _)) (Below.refl _ _) (fun _ => rfl)
    (fun pre W => Boxed W (v2.heap.size + 1 + 1) 39 (.slice (some ⟨v2.heap.size + 1, 0, none⟩) (n + 1) (n + 1)) ∧ SliceAt W (some ⟨v2.heap.size + 1, 0, none⟩) 1 blCell (bsOf ws []) ∧ Boxed W v2.heap.size 32 (.slice AK n cK) ∧ Gr v2 W)
    (fun _ _ _ => False) ?own
    (fun _ _ _ _ _ hs _ _ => hs)
    ⟨hb2, hat5, hb0, hgv⟩
    (fun x => { tmps := #[.string (B []), .string (B k), undef, undef, .bool false, .pointer (some ⟨v2.heap.size, 0, none⟩), .pointer (some ⟨v2.heap.size + 1 + 1, 0, none⟩), .string x, .string (B k), vK, .slice AK n cK, .slice AK n cK, .int .i64 (n : Nat), .int .i64 ((n : Nat) + 1 : Int), .slice (some ⟨v2.heap.size + 1, 0, none⟩) (n + 1) (n + 1), .slice (some ⟨v2.heap.size + 1, 0, none⟩) (n + 1) (n + 1), .pointer (some ⟨v2.heap.size + 1, 0, none⟩), .string (B []), .func (.func 32) #[] #[], .string x, undef, undef, undef, undef, undef, undef, undef, undef, undef], defers := [] }) ?assign ?body ?done ?stop
  case own =>
    rintro pre W W' row ⟨q1, q2, q5, q6⟩ hg hr
    have hr2 : ∀ r, row = some r → ∃ o : Obj, W.heap[r]? = some o ∧ o.isCells = false := fun r e => (hr r e).2
    have hbx : ∀ (b : Nat) (t : TypeId) (v : Value), Boxed W b t v → Boxed W' b t v := fun b t v h => h.kept hg (fun e => by obtain ⟨o, ho, hc⟩ := hr2 b e.symm; rw [show W.heap[b]? = _ from h] at ho; cases ho; cases hc)
    refine ⟨hbx _ _ _ q1, q2.row hg hr2, hbx _ _ _ q5, ?_⟩
    exact ⟨hg.os.trans (Below.os q6), hg.tape.trans (Below.tape q6), hg.output.trans (Below.output q6), Nat.le_trans (Below.size q6) hg.size, fun j hj => (hg.block j (Nat.lt_of_lt_of_le hj (Below.size q6)) (fun e => by have h1 := (hr j e.symm).1; have h2 := hgv.size; omega)).trans (Below.block q6 j hj)⟩
  case assign =>
    intro l x W K hK
    gi_wp2
    exact hK
  case body =>
    rintro l pre x W _ hlt
    omega
  case done =>
    rintro D ys W hD rfl ⟨q1, q2, q5, q6⟩ hK
    have d1 := q1.cell
    have d3 := q5.cell
    have d6 : W.cell? ⟨v2.heap.size + 1, n, none⟩ = some (.bool (mtL [] ws)) := by
      rcases q2 with h0 | ⟨b, off, hA, hc⟩
      · have h1 := bsOf_len ws []
        rw [h0] at h1
        simp at h1
      · cases hA
        have h1 := hc n _ (by rw [← hnw]; exact bsOf_last ws _) 0 _ rfl
        simpa using h1
    have HF : Hid (Gr w (W.putObj D (.deferred none))) := Below.trans (HC2.out.2.trans q6) (belowK_b (w := w) (Nat.le_refl _) W D _ _ (by have h1 := HC2.out.2.size; have h2 := hgv.size; omega) hK rfl rfl)
    have hn1 : ((n : Nat) : Int) < (n : Int) + 1 := by omega
    gi_wp2
    refine ⟨by simp, .inl ⟨_, _, rfl, run_takeDeferred hK, ?_⟩⟩
    exact ⟨_, results_tmp rfl _ _ _, by rw [HWS.out]; rfl, HF.out⟩
  case stop =>
    rintro D c pre W _ _ h _
    exact h.elim
theorem tp_matchA (p k : List UInt8) (hp : p.length ≤ 4000) (hk : k.length ≤ 4000) (w : World) (hm : ∃ m, w.cell? ⟨0, 0, none⟩ = some (.int .i64 m)) : Calls Tryd.prog 8 #[.string (B p), .string (B k)] w fun r w' => r = .returned (.bool (mtL ((wordsL p).map B) ((wordsL k).map B))) ∧ Gr w w' := by
  by_cases h : p = []
  · subst h
    exact tp_match0 k hk w hm
  · exact tp_match p k hp hk w hm h
end Go.Proofs.YtdpildbdbbfamaaDoor
