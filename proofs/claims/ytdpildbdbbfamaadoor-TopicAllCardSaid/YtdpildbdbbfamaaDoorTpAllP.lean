/- Layer 20: all parts of a text, not too many, so. -/
import Derived.Test.YtdpildbdbbfamaaDoorTpName
import Derived.Test.YtdpildbdbbfamaaDoorTpMatch
import Derived.Test.YtdpildbdbbfamaaDoorTpAllN
namespace Go.Proofs.YtdpildbdbbfamaaDoor
open Go.RowKit Go.Shelf
set_option linter.unusedVariables false
set_option linter.unusedSimpArgs false
set_option maxRecDepth 100000
set_option maxHeartbeats 2000000
attribute [local go_sem] Oper.semAt_some
theorem tp_allP (so : List UInt8 → Bool) (hso : ∀ x w, Calls Tryd.prog 31 #[.string (B x)] w fun r w' => r = .returned (.bool (so x)) ∧ Gr w w') (s : List UInt8) (hs : s.length ≤ 4000) (hne : s ≠ []) (w : World) (hm : ∃ m, w.cell? ⟨0, 0, none⟩ = some (.int .i64 m)) :
    Calls Tryd.prog 30 #[.string (B s), .func (.func 31) #[] #[]] w fun r w' => r = .returned (.bool (allB so s)) ∧ Gr w w' := by
  have cW := fun w1 h => Lib.hid (tp_wordsW s w1 h)
  refine (callsIn_wide (n := 8)).1 ?_
  refine callsIn_of_wp_marks Tryd.func30 rfl trivial ?_ rfl
  simp only [Tryd.ntmps30, List.size_toArray, List.length_cons, List.length_nil, Nat.reduceAdd, Nat.reduceSub, Array.replicate_succ, Array.replicate_zero, List.push_toArray, List.append_toArray, List.nil_append, List.cons_append]
  have hmA : ∃ m, (((w.alloc (.cells #[.func (.func 31) #[] #[]] 26)).alloc (.cells #[.bool false] 4)).alloc (.cells #[.int .i64 0] 3)).cell? ⟨0, 0, none⟩ = some (.int .i64 m) := by
    obtain ⟨m, hm⟩ := hm
    exact ⟨m, ((((Gr.refl w).alloc _).alloc _).alloc _).cells hm⟩
  have HM := Lib.hid hmA
  gi_wp2_with (first
    | (refine ⟨trivial, ?_⟩; gi_at_call 14; refine (callsIn_wide.2 (cW _ HM.out).out).mono ?_; clear cW; rintro e v1 ⟨vK, rfl, hP, hg⟩; obtain ⟨Bp, Bs, Bv, rfl, hne, hbs, hsp⟩ := hP.ne hne; have HK := Lib.hid (And.intro hne (And.intro hbs (And.intro hsp hg))); clear hP hne hbs hsp hg))
  have hwp : wordsL s = splitW s := if_neg hne
  have hgv : Gr w v1 := Gr.trans ((((Gr.refl w).alloc _).alloc _).alloc _) HK.out.2.2.2
  have hlp : 0 < w.heap.size := by
    obtain ⟨m, hm⟩ := hm
    exact block_lt_of_cell hm
  have hbB : w.heap.size + 1 + 1 < Bs ∧ w.heap.size + 1 + 1 < Bp ∧ w.heap.size + 1 + 1 < Bv := by
    have h2 := HK.out.2.1
    rw [alloc_size, alloc_size, alloc_size] at h2
    omega
  obtain ⟨r0, r1, r2⟩ := heap_alloc3 w (.cells #[.func (.func 31) #[] #[]] 26) (.cells #[.bool false] 4) (.cells #[.int .i64 0] 3)
  have hb0 : Boxed v1 w.heap.size 26 (.func (.func 31) #[] #[]) := (HK.out.2.2.2.block (Array.getElem?_eq_some_iff.1 r0).1).trans r0
  have hb1 : Boxed v1 (w.heap.size + 1) 4 (.bool false) := (HK.out.2.2.2.block (Array.getElem?_eq_some_iff.1 r1).1).trans r1
  have hb2 : Boxed v1 (w.heap.size + 1 + 1) 3 (.int .i64 0) := (HK.out.2.2.2.block (Array.getElem?_eq_some_iff.1 r2).1).trans r2
  have h5sz : Bs < v1.heap.size ∧ Bp < v1.heap.size ∧ Bv < v1.heap.size := ⟨(Array.getElem?_eq_some_iff.1 HK.out.2.2.1.s).1, (Array.getElem?_eq_some_iff.1 HK.out.2.2.1.p).1, (Array.getElem?_eq_some_iff.1 HK.out.2.2.1.v).1⟩
  clear r0 r1 r2
  refine range_split2 8 (by omega) Bp Bs Bv HK.out.1 s hs rfl rfl HK.out.2.2.1
    (fun pre W => Boxed W w.heap.size 26 (.func (.func 31) #[] #[]) ∧ Boxed W (w.heap.size + 1) 4 (.bool false) ∧ Boxed W (w.heap.size + 1 + 1) 3 (.int .i64 (pre.length : Int)) ∧ Gr w W ∧ v1.heap.size ≤ W.heap.size ∧ pre.length ≤ 8 ∧ ∀ x ∈ pre, so x.data.toList = true)
    ?own ?set
    (fun pre W => Boxed W (w.heap.size + 1) 4 (.bool false) ∧ Gr w W ∧ allB so s = false) ?ownx
    ⟨hb0, hb1, hb2, hgv, Nat.le_refl _, Nat.zero_le _, by simp⟩
    (fun x a' _ => a' = { tmps := #[.string (B s), .func (.func 31) #[] #[], undef, .pointer (some ⟨w.heap.size, 0, none⟩), .pointer (some ⟨w.heap.size + 1, 0, none⟩), .pointer (some ⟨w.heap.size + 1 + 1, 0, none⟩), .string x, .string (B s), .func (.func 47) #[] #[.pointer (some ⟨Bp, 0, none⟩), .pointer (some ⟨Bs, 0, none⟩), .pointer (some ⟨Bv, 0, none⟩)], .string x, undef, undef, undef, undef, undef, undef, undef, undef, undef, undef], defers := [] })
    (fun _ _ _ _ _ _ h _ _ => h) ?assign ?body ?done ?stop
  case own =>
    rintro pre W W' row ⟨q1, q2, q3, q5, q6, q7, q8⟩ hg hr
    have hr2 : ∀ r, row = some r → ∃ o : Obj, W.heap[r]? = some o ∧ o.isCells = false := fun r e => (hr r e).2
    have hbx : ∀ (b : Nat) (t : TypeId) (v : Value), Boxed W b t v → Boxed W' b t v := fun b t v h => h.kept hg (fun e => by obtain ⟨o, ho, hc⟩ := hr2 b e.symm; rw [show W.heap[b]? = _ from h] at ho; cases ho; cases hc)
    refine ⟨hbx _ _ _ q1, hbx _ _ _ q2, hbx _ _ _ q3, ?_, Nat.le_trans q6 hg.size, q7, q8⟩
    exact ⟨hg.os.trans (Below.os q5), hg.tape.trans (Below.tape q5), hg.output.trans (Below.output q5), Nat.le_trans (Below.size q5) hg.size, fun j hj => (hg.block j (Nat.lt_of_lt_of_le hj (Below.size q5)) (fun e => by have h1 := (hr j e.symm).1; have h2 := hgv.size; omega)).trans (Below.block q5 j hj)⟩
  case ownx =>
    rintro pre W W' row ⟨q2, q5, q6⟩ hg hr
    have hr2 : ∀ r, row = some r → ∃ o : Obj, W.heap[r]? = some o ∧ o.isCells = false := fun r e => (hr r e).2
    have hbx : ∀ (b : Nat) (t : TypeId) (v : Value), Boxed W b t v → Boxed W' b t v := fun b t v h => h.kept hg (fun e => by obtain ⟨o, ho, hc⟩ := hr2 b e.symm; rw [show W.heap[b]? = _ from h] at ho; cases ho; cases hc)
    refine ⟨hbx _ _ _ q2, ?_, q6⟩
    exact ⟨hg.os.trans (Below.os q5), hg.tape.trans (Below.tape q5), hg.output.trans (Below.output q5), Nat.le_trans (Below.size q5) hg.size, fun j hj => (hg.block j (Nat.lt_of_lt_of_le hj (Below.size q5)) (fun e => by have h1 := (hr j e.symm).1; have h2 := hgv.size; omega)).trans (Below.block q5 j hj)⟩
  case set =>
    rintro pre W u ⟨q1, q2, q3, q5, q6, q7, q8⟩
    exact ⟨q1.other (by omega) u, q2.other (by omega) u, q3.other (by omega) u, ((Ch.refl Bs W).setCell 0 u).gr q5 (by omega), by rw [setCell_size]; exact q6, q7, q8⟩
  case assign =>
    intro l pre x r W K hi hb hK
    gi_wp2
    exact hK _ _ (KeepsFrom.refl _ _) hi hb rfl
  case body =>
    rintro l pre x a' r W hl9 ⟨q1, q2, q3, q5, q6, q7, q8⟩ hb rfl ⟨post, hpost⟩
    obtain ⟨X, rfl⟩ : ∃ X, x = B X := ⟨x.data.toList, rfl⟩
    have d3 := q3.cell
    have d4 := q3.frozen
    have d1 := (q1.other (B' := w.heap.size + 1 + 1) (by omega) (.int .i64 ((pre.length : Int) + 1))).cell
    have cS := fun w1 => Lib.hid (hso X w1)
    have hwr : IntKind.i64.wrap ((pre.length : Int) + 1) = (pre.length : Int) + 1 := by rw [IntKind.wrap_i64]; omega
    have e2 := (q2.other (B' := w.heap.size + 1 + 1) (by omega) (.int .i64 ((pre.length : Int) + 1)))
    have e1 := (q1.other (B' := w.heap.size + 1 + 1) (by omega) (.int .i64 ((pre.length : Int) + 1)))
    have e3 := q3.set (.int .i64 ((pre.length : Int) + 1))
    have eg2 : Gr w (W.setCell ⟨w.heap.size + 1 + 1, 0, none⟩ (.int .i64 ((pre.length : Int) + 1))) := ((Ch.refl (w.heap.size + 1 + 1) W).setCell 0 _).gr q5 (by omega)
    have d6 := e2.cell
    have d7 := e2.frozen
    have HQ := Lib.hid (And.intro e1 (And.intro e2 (And.intro e3 (And.intro eg2 (And.intro q6 (And.intro q7 (And.intro q8 hb)))))))
    have HP := Lib.hid hpost
    clear hpost q8 e1 e2 e3 eg2 hb
    obtain ⟨sx, hsx⟩ : ∃ sx, so X = sx := ⟨_, rfl⟩
    rw [hsx] at cS
    have HSX := Lib.hid hsx
    clear hsx
    gi_wp2_with (refine ⟨trivial, ?_⟩; gi_at_call 31; refine (CallsIn.inRound l (callsIn_wide.2 (cS _).out)).mono ?_; rintro e w6 ⟨rfl, hg6⟩; have HG := Lib.hid hg6; have d4 := (Boxed.cell (show Boxed w6 _ _ _ from (hg6.block (Array.getElem?_eq_some_iff.1 HQ.out.2.1).1).trans HQ.out.2.1)); have d5 := (Boxed.frozen (show Boxed w6 _ _ _ from (hg6.block (Array.getElem?_eq_some_iff.1 HQ.out.2.1).1).trans HQ.out.2.1)); clear hg6)
    rotate_right
    · refine ⟨(fun f hf => by cases hf), ?_⟩
      gi_wp2
      refine ⟨((KeepsOthers.setCell _ _ _).from _).trans ((KeepsOthers.setCell _ _ _).from _), HQ.out.2.1.set _, ((Ch.refl (w.heap.size + 1) _).setCell 0 _).gr HQ.out.2.2.2.1 (by omega), all_no so s hne pre post X HP.out (.inr (by omega))⟩
    · have x2 : Boxed w6 (w.heap.size + 1) 4 (.bool false) := (HG.out.block (Array.getElem?_eq_some_iff.1 HQ.out.2.1).1).trans HQ.out.2.1
      exact ⟨((KeepsOthers.setCell _ _ _).from _).trans ((KeepsFrom.of_gr HG.out).trans ((KeepsOthers.setCell _ _ _).from _)), x2.set _, ((Ch.refl (w.heap.size + 1) w6).setCell 0 _).gr (HQ.out.2.2.2.1.trans HG.out) (by omega), all_no so s hne pre post X HP.out (by have h := HSX.out; rename_i h1 h2; rcases h2 with h2 | h2; exact .inr (by omega); exact .inl (by cases sx; exact h; cases h2))⟩
    · have x1 : Boxed w6 w.heap.size 26 (.func (.func 31) #[] #[]) := (HG.out.block (Array.getElem?_eq_some_iff.1 HQ.out.1).1).trans HQ.out.1
      have x2 : Boxed w6 (w.heap.size + 1) 4 (.bool false) := (HG.out.block (Array.getElem?_eq_some_iff.1 HQ.out.2.1).1).trans HQ.out.2.1
      have x3 : Boxed w6 (w.heap.size + 1 + 1) 3 (.int .i64 ((pre.length : Int) + 1)) := (HG.out.block (Array.getElem?_eq_some_iff.1 HQ.out.2.2.1).1).trans HQ.out.2.2.1
      have hsz6 := HG.out.size
      rw [setCell_size] at hsz6
      have hl1 : (pre ++ [B X]).length = pre.length + 1 := by simp
      refine ⟨((KeepsOthers.setCell _ _ _).from _).trans (KeepsFrom.of_gr HG.out), ⟨x1, x2, ?_, HQ.out.2.2.2.1.trans HG.out, Nat.le_trans HQ.out.2.2.2.2.1 hsz6, ?_, ?_⟩, (HQ.out.2.2.2.2.2.2.2.other (b := w.heap.size + 1 + 1) (by omega) _).gr HG.out⟩
      · rw [hl1]; exact x3
      · rw [hl1]; simp_all; omega
      · intro x hx
        rcases List.mem_append.1 hx with hx | hx
        · exact HQ.out.2.2.2.2.2.2.1 x hx
        · rw [List.mem_singleton] at hx
          subst hx
          have h := HSX.out
          show so X = true
          simp_all
  case done =>
    rintro D W hD ⟨q1, q2, q3, q5, q6, q7, q8⟩ hK
    have d1 := q2.cell
    have d2 := q2.frozen
    have HF : Hid (Gr w (W.putObj D (.deferred none))) := Below.trans q5 (belowK_b (w := w) (Nat.le_refl _) W D _ _ (by have h2 := hgv.size; omega) hK rfl rfl)
    have hW : (W.setCell ⟨w.heap.size + 1, 0, none⟩ (.bool true)).heap[D]? = some (.deferred (some [])) := (heap_setCell_other _ _ _ _ (by show D ≠ w.heap.size + 1; omega)).trans hK
    have hbx : Boxed ((W.setCell ⟨w.heap.size + 1, 0, none⟩ (.bool true)).putObj D (.deferred none)) (w.heap.size + 1) 4 (.bool true) := (World.putObj_heap_other (by omega)).trans (q2.set (.bool true))
    have hF2 : Hid (Gr w ((W.setCell ⟨w.heap.size + 1, 0, none⟩ (.bool true)).putObj D (.deferred none))) := Below.trans (((Ch.refl (w.heap.size + 1) W).setCell 0 _).gr q5 (by omega)) (belowK_b (w := w) (Nat.le_refl _) _ D _ _ (by have h2 := hgv.size; omega) hW rfl rfl)
    have hans := Lib.hid (all_yes so s hne q7 q8)
    clear q7 q8
    gi_wp2
    refine ⟨by simp, .inl ⟨_, _, rfl, run_takeDeferred hW, ?_⟩⟩
    have hc := hbx.cell
    refine ⟨_, by simp [results, Tryd.results30, hc, go_sem]; try rfl, by rw [hans.out], hF2.out⟩
  case stop =>
    rintro D pre W hD ⟨q2, q5, q6⟩ hK
    have d1 := q2.cell
    have HF : Hid (Gr w (W.putObj D (.deferred none))) := Below.trans q5 (belowK_b (w := w) (Nat.le_refl _) W D _ _ (by have h2 := hgv.size; omega) hK rfl rfl)
    have hbx : Boxed (W.putObj D (.deferred none)) (w.heap.size + 1) 4 (.bool false) := (World.putObj_heap_other (by omega)).trans q2
    have hans := Lib.hid q6
    clear q6
    gi_wp2
    refine ⟨by simp, .inl ⟨_, _, rfl, run_takeDeferred hK, ?_⟩⟩
    have hc := hbx.cell
    refine ⟨_, by simp [results, Tryd.results30, hc, go_sem]; try rfl, by rw [hans.out], HF.out⟩
theorem tp_all0P (w : World) :
    Calls Tryd.prog 30 #[.string (B []), .func (.func 31) #[] #[]] w fun r w' => r = .returned (.bool true) ∧ Gr w w' := by
  have cW := fun w1 => Lib.hid (tp_words0 w1)
  have hE : B [] = ⟨#[]⟩ := rfl
  rw [hE]
  clear hE
  refine (callsIn_wide (n := 8)).1 ?_
  refine callsIn_of_wp_marks Tryd.func30 rfl trivial ?_ rfl
  simp only [Tryd.ntmps30, List.size_toArray, List.length_cons, List.length_nil, Nat.reduceAdd, Nat.reduceSub, Array.replicate_succ, Array.replicate_zero, List.push_toArray, List.append_toArray, List.nil_append, List.cons_append]
  obtain ⟨r0, r1, r2⟩ := heap_alloc3 w (.cells #[.func (.func 31) #[] #[]] 26) (.cells #[.bool false] 4) (.cells #[.int .i64 0] 3)
  have hgv : Gr w (((w.alloc (.cells #[.func (.func 31) #[] #[]] 26)).alloc (.cells #[.bool false] 4)).alloc (.cells #[.int .i64 0] 3)) := (((Gr.refl w).alloc _).alloc _).alloc _
  have hb1 : Boxed (((w.alloc (.cells #[.func (.func 31) #[] #[]] 26)).alloc (.cells #[.bool false] 4)).alloc (.cells #[.int .i64 0] 3)) (w.heap.size + 1) 4 (.bool false) := r1
  have HR := Lib.hid (And.intro hb1 hgv)
  clear hb1 hgv r0 r1 r2
  gi_wp2_with (first
    | (refine ⟨trivial, ?_⟩; gi_at_call 14; refine (callsIn_wide.2 (cW _).out).mono ?_; clear cW; rintro e v1 ⟨rfl, he⟩; rw [he] at HR; clear he))
  have hgv := HR.out.2
  refine wpIn_rangeFunc_ownG rfl (by omega) (gf := 32) (lb := #[]) rfl trivial (enters_of Tryd.func32 (by kernel_rfl) rfl)
    (tp_stops0 (8 - 1) v1.heap.size _) belowK_t (belowK_b (Nat.le_refl _)) (Below.refl _ _) (fun _ => rfl)
    (fun pre W => Boxed W (w.heap.size + 1) 4 (.bool false) ∧ Gr w W)
    (fun _ _ _ => False) ?own
    (fun _ _ _ _ _ hs _ _ => hs)
    ⟨HR.out.1, HR.out.2⟩
    (fun x => { tmps := #[.string ⟨#[]⟩, .func (.func 31) #[] #[], undef, .pointer (some ⟨w.heap.size, 0, none⟩), .pointer (some ⟨w.heap.size + 1, 0, none⟩), .pointer (some ⟨w.heap.size + 1 + 1, 0, none⟩), .string x, .string ⟨#[]⟩, .func (.func 32) #[] #[], .string x, undef, undef, undef, undef, undef, undef, undef, undef, undef, undef], defers := [] }) ?assign ?body ?done ?stop
  case own =>
    rintro pre W W' row ⟨q2, q5⟩ hg hr
    have hr2 : ∀ r, row = some r → ∃ o : Obj, W.heap[r]? = some o ∧ o.isCells = false := fun r e => (hr r e).2
    have hbx : ∀ (b : Nat) (t : TypeId) (v : Value), Boxed W b t v → Boxed W' b t v := fun b t v h => h.kept hg (fun e => by obtain ⟨o, ho, hc⟩ := hr2 b e.symm; rw [show W.heap[b]? = _ from h] at ho; cases ho; cases hc)
    refine ⟨hbx _ _ _ q2, ?_⟩
    exact ⟨hg.os.trans (Below.os q5), hg.tape.trans (Below.tape q5), hg.output.trans (Below.output q5), Nat.le_trans (Below.size q5) hg.size, fun j hj => (hg.block j (Nat.lt_of_lt_of_le hj (Below.size q5)) (fun e => by have h1 := (hr j e.symm).1; have h2 := hgv.size; omega)).trans (Below.block q5 j hj)⟩
  case assign =>
    intro l x W K hK
    gi_wp2
    exact hK
  case body =>
    rintro l pre x W _ hlt
    omega
  case done =>
    rintro D ys W hD rfl ⟨q2, q5⟩ hK
    have d1 := q2.cell
    have d2 := q2.frozen
    have hsz := hgv.size
    have hlt2 : w.heap.size + 1 < v1.heap.size := (Array.getElem?_eq_some_iff.1 HR.out.1).1
    have hW : (W.setCell ⟨w.heap.size + 1, 0, none⟩ (.bool true)).heap[D]? = some (.deferred (some [])) := (heap_setCell_other _ _ _ _ (by show D ≠ w.heap.size + 1; omega)).trans hK
    have hbx : Boxed ((W.setCell ⟨w.heap.size + 1, 0, none⟩ (.bool true)).putObj D (.deferred none)) (w.heap.size + 1) 4 (.bool true) := (World.putObj_heap_other (by omega)).trans (q2.set (.bool true))
    have hF2 : Hid (Gr w ((W.setCell ⟨w.heap.size + 1, 0, none⟩ (.bool true)).putObj D (.deferred none))) := Below.trans (((Ch.refl (w.heap.size + 1) W).setCell 0 _).gr q5 (by omega)) (belowK_b (w := w) (Nat.le_refl _) _ D _ _ (by omega) hW rfl rfl)
    gi_wp2
    refine ⟨by simp, .inl ⟨_, _, rfl, run_takeDeferred hW, ?_⟩⟩
    have hc := hbx.cell
    refine ⟨_, by simp [results, Tryd.results30, hc, go_sem]; try rfl, rfl, hF2.out⟩
  case stop =>
    rintro D c pre W _ _ h _
    exact h.elim
/-- topic.all at this function, of any text -/
theorem tp_allAP (so : List UInt8 → Bool) (hso : ∀ x w, Calls Tryd.prog 31 #[.string (B x)] w fun r w' => r = .returned (.bool (so x)) ∧ Gr w w') (s : List UInt8) (hs : s.length ≤ 4000) (w : World) (hm : ∃ m, w.cell? ⟨0, 0, none⟩ = some (.int .i64 m)) :
    Calls Tryd.prog 30 #[.string (B s), .func (.func 31) #[] #[]] w fun r w' => r = .returned (.bool (allB so s)) ∧ Gr w w' := by
  by_cases h : s = []
  · subst h
    exact tp_all0P w
  · exact tp_allP so hso s hs h w hm
end Go.Proofs.YtdpildbdbbfamaaDoor
