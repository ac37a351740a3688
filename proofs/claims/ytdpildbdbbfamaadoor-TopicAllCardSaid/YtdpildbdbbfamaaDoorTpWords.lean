/- Layer 20: the words of a text; slices.Collect of them. -/
import Derived.Maps.AppendAt
import Derived.Test.YtdpildbdbbfamaaDoorTpRange
namespace Go.Proofs.YtdpildbdbbfamaaDoor
open Go.RowKit Go.Shelf
set_option linter.unusedVariables false
set_option linter.unusedSimpArgs false
set_option maxRecDepth 100000
set_option maxHeartbeats 2000000
attribute [local go_sem] Oper.semAt_some
theorem gb_step {w W W' : World} {Bs : Nat} {row : Option Nat} (h : w.grownBy W (some Bs)) (hg : W.grownBy W' row) (hr : ∀ r, row = some r → w.heap.size ≤ r ∨ r = Bs) : w.grownBy W' (some Bs) :=
  ⟨hg.os.trans h.os, hg.tape.trans h.tape, hg.output.trans h.output, Nat.le_trans h.size hg.size, fun k hk hne => (hg.block k (Nat.lt_of_lt_of_le hk h.size) (fun e => by
    rcases hr k e.symm with h1 | h1
    · omega
    · exact hne (by rw [h1]))).trans (h.block k hk hne)⟩
theorem gb_below {w W W' : World} {Bs : Nat} (h : w.grownBy W (some Bs)) (hb : Below w.heap.size W W') : w.grownBy W' (some Bs) :=
  ⟨hb.os.trans h.os, hb.tape.trans h.tape, hb.output.trans h.output, Nat.le_trans h.size hb.size, fun k hk hne => (hb.block k hk).trans (h.block k hk hne)⟩
theorem gb_gr {w0 w W : World} {Bs : Nat} (h0 : Gr w0 w) (h : w.grownBy W (some Bs)) (hb : w0.heap.size ≤ Bs) : Gr w0 W :=
  ⟨h.os.trans (Below.os h0), h.tape.trans (Below.tape h0), h.output.trans (Below.output h0), Nat.le_trans (Below.size h0) h.size, fun k hk => (h.block k (Nat.lt_of_lt_of_le hk (Below.size h0)) (fun e => by have e2 : k = Bs := Option.some.inj e; omega)).trans (Below.block h0 k hk)⟩
def strCell (x : ByteArray) : List Value := [.string x]
theorem tp_words (s : List UInt8) (hs : s ≠ []) (w : World) (hm : ∃ m, w.cell? ⟨0, 0, none⟩ = some (.int .i64 m)) : Calls Tryd.prog 14 #[.string (B s)] w fun r w' => r = .returned (.func (.func 47) #[] #[.pointer (some ⟨w.heap.size + 1, 0, none⟩), .pointer (some ⟨w.heap.size, 0, none⟩), .pointer (some ⟨w.heap.size + 1 + 1, 0, none⟩)]) ∧ SpAt w' (w.heap.size + 1) w.heap.size (w.heap.size + 1 + 1) s ∧ Gr w w' := by
  have hb : (B s).toList.isEmpty = false := by
    rw [ByteArray.toList_eq]
    cases s with
    | nil => exact absurd rfl hs
    | cons c t => rfl
  have hW : SpAt (((w.alloc (.cells #[.string (B s)] 9)).alloc (.cells #[.string ⟨#[46]⟩] 9)).alloc (.cells #[.int .i64 0] 3)) (w.heap.size + 1) w.heap.size (w.heap.size + 1 + 1) s := by
    obtain ⟨r0, r1, r2⟩ := heap_alloc3 w (.cells #[.string (B s)] 9) (.cells #[.string ⟨#[46]⟩] 9) (.cells #[.int .i64 0] 3)
    obtain ⟨m, hm⟩ := hm
    exact ⟨r1, r0, r2, m, ((((Gr.refl w).alloc _).alloc _).alloc _).cells hm⟩
  have HW := Lib.hid hW
  clear hW
  go_enter Tryd.func14, Tryd.ntmps14
  go_wp2
  go_ret
  exact ⟨rfl, HW.out, (((Gr.refl w).alloc _).alloc _).alloc _⟩
theorem tp_words0 (w : World) : Calls Tryd.prog 14 #[.string ⟨#[]⟩] w fun r w' => r = .returned (.func (.func 32) #[] #[]) ∧ w = w' := by
  have hb : (⟨#[]⟩ : ByteArray).toList.isEmpty = true := by rw [ByteArray.toList_eq]; rfl
  go_enter Tryd.func14, Tryd.ntmps14
  go_wp2
  go_ret
  exact ⟨rfl, rfl⟩
theorem tp_info_str : (Tryd.prog.info? 9).map (fun i => (i.zero, i.size, i.bytes)) = some (some (.string { data := #[] }), 1, 16) := by kernel_rfl
theorem tp_le (s : List UInt8) : ∀ pre r : List (List UInt8), splitW s = pre ++ r → pre.length ≤ s.length + 1 := fun pre r h => by
  have h1 := split_len s
  have h2 : s.count 46 ≤ s.length := List.count_le_length
  rw [h, List.length_append] at h1
  omega
theorem SpAt.below {w W W' : World} {Bp Bs Bv : Nat} {r r0 : List UInt8} (h : SpAt W Bp Bs Bv r) (h0 : SpAt w Bp Bs Bv r0) (hb : Below w.heap.size W W') : SpAt W' Bp Bs Bv r := by
  have l1 : Bp < w.heap.size := (Array.getElem?_eq_some_iff.1 h0.p).1
  have l2 : Bs < w.heap.size := (Array.getElem?_eq_some_iff.1 h0.s).1
  have l3 : Bv < w.heap.size := (Array.getElem?_eq_some_iff.1 h0.v).1
  refine ⟨(hb.block _ l1).trans h.p, (hb.block _ l2).trans h.s, (hb.block _ l3).trans h.v, ?_⟩
  obtain ⟨m, hm⟩ := h.m
  exact ⟨m, (hb.cell (p := ⟨0, 0, none⟩) (by show 0 < w.heap.size; omega)).trans hm⟩
theorem tp_appendseq (Bp Bs Bv : Nat) (hne : Bp ≠ Bs ∧ Bv ≠ Bs ∧ Bs ≠ 0) (s : List UInt8) (hs : s.length ≤ 4000) (w : World) (hB : SpAt w Bp Bs Bv s) : Calls Tryd.prog 38 #[.slice none 0 0, .func (.func 47) #[] #[.pointer (some ⟨Bp, 0, none⟩), .pointer (some ⟨Bs, 0, none⟩), .pointer (some ⟨Bv, 0, none⟩)]] w fun r w' => ∃ A cap, r = .returned (.slice A (splitW s).length cap) ∧ Own w' w.heap.size 9 1 strCell A cap ((splitW s).map B) ∧ w.grownBy w' (some Bs) := by
  obtain ⟨i0, hi, hz0, hz1, hz2⟩ := info_parts tp_info_str
  have hlS : Bs < w.heap.size := (Array.getElem?_eq_some_iff.1 hB.s).1
  refine (callsIn_wide (n := 6)).1 ?_
  refine callsIn_of_wp_marks Tryd.func38 rfl trivial ?_ rfl
  simp only [Tryd.ntmps38, List.size_toArray, List.length_cons, List.length_nil, Nat.reduceAdd, Nat.reduceSub, Array.replicate_succ, Array.replicate_zero, List.push_toArray, List.append_toArray, List.nil_append, List.cons_append]
  gi_wp2
  have bO := Boxed.new w 32 (.slice none 0 0)
  refine range_split 6 (by omega) Bp Bs Bv hne s hs rfl rfl (hB.alloc _)
    (fun pre W => (∃ v, Boxed W w.heap.size 32 v ∧ W.ownsRow w.heap.size 9 1 v pre.length (pre.flatMap strCell) ∧ True) ∧ w.grownBy W (some Bs))
    (OwnFrom.and (Go.Own.from (holdsRow_own w.heap.size w.heap.size 32 9 1 (fun pre : List ByteArray => pre.length) (fun pre => pre.flatMap strCell) (fun _ _ => True)) _) (fun pre W W' row h hg hr => gb_step h hg (fun r e => .inl (by have := (hr r e).1; rw [World.size_alloc] at this; omega))))
    ?_ ⟨⟨.slice none 0 0, bO, World.ownsRow_nil _ _ _ _, trivial⟩, World.grownBy_alloc w _ _⟩
    (fun x a' _ => a' = { tmps := #[.slice none 0 0, .func (.func 47) #[] #[.pointer (some ⟨Bp, 0, none⟩), .pointer (some ⟨Bs, 0, none⟩), .pointer (some ⟨Bv, 0, none⟩)], .pointer (some ⟨w.heap.size, 0, none⟩), undef, .slice none 0 0, .string x, .func (.func 47) #[] #[.pointer (some ⟨Bp, 0, none⟩), .pointer (some ⟨Bs, 0, none⟩), .pointer (some ⟨Bv, 0, none⟩)], .string x, undef, undef, undef, undef, undef], defers := [] })
    (fun _ _ _ _ _ _ h _ _ => h) ?assign ?body ?done
  · rintro pre W u ⟨⟨v, hv, hrow, ht⟩, hgb⟩
    have hno : v.ownBlock ≠ some Bs := by
      rcases hrow.2 with ⟨rfl, _⟩ | ⟨g, cap, cur, rfl, hbg, _⟩
      · simp [Value.ownBlock]
      · intro e
        have : g = Bs := by simpa [Value.ownBlock] using e
        omega
    exact ⟨⟨v, hv.other (by omega) u, hrow.kept (grownBy_setCell' W Bs u) (.inr hno), ht⟩, gb_step hgb (grownBy_setCell' W Bs u) (fun r e => .inr (Option.some.inj e).symm)⟩
  case assign =>
    intro l pre x r W K hi hb hK
    gi_wp2
    exact hK _ _ (KeepsFrom.refl _ _) hi hb rfl
  case body =>
    rintro l pre x a' r W hl9 ⟨⟨v, hv, hrow, ht⟩, hgb⟩ hb rfl hlt
    have hc := hv.cell
    have h1 := split_len s
    have h2 : s.count 46 ≤ s.length := List.count_le_length
    have hsz := hgb.size
    gi_wp2_with (gi_at_builtin; refine wpListIn_append_own _ rfl _ _ 32 rfl w.heap.size 9 i0 _ 1 16 Tryd.underlying32 hi hz0 hz1 hz2 rfl (by decide) _ _ _ rfl (hrow.alloc _) ⟨W.heap.size, 0, none⟩ 1 1 [.string x] rfl rfl (World.news_of_block (cs := #[.string x]) (heap_alloc_last W _)) (by simp [Value.oneCell']) (by unfold maxLen; omega) (by omega) (by have := hsz; simp; omega) ?_; intro v' w1 hown' hgrow _; obtain ⟨g', cap', rfl⟩ := ownsRow_succ hown'; obtain ⟨hv1, hv2, hr2, hk2, hb2⟩ := hv.appended (by decide) hrow hsz (Nat.le_refl _) hown' hgrow; have hc1 := hv1.cell; have hf1 := hv1.frozen)
    exact ⟨hk2.from _, ⟨⟨_, hv2, by rw [List.length_append, List.flatMap_append]; exact hr2, trivial⟩, gb_below hgb hb2⟩, hb.below hB hb2⟩
  case done =>
    rintro D W hD ⟨⟨v, hv, hrow, ht⟩, hgb⟩ hK
    have hc := hv.cell
    have hwd : w.heap.size ≤ D := by rw [World.size_alloc] at hD; omega
    obtain ⟨Av, cv, rfl⟩ : ∃ Av cv, v = .slice Av ((splitW s).map B).length cv := by
      rcases hrow.2 with ⟨rfl, h0⟩ | ⟨g, cap, cur, rfl, _⟩
      · exact ⟨none, 0, by rw [h0]⟩
      · exact ⟨_, _, rfl⟩
    have HF : Hid (Own (W.putObj D (.deferred none)) w.heap.size 9 1 strCell Av cv ((splitW s).map B) ∧ w.grownBy (W.putObj D (.deferred none)) (some Bs)) := ⟨ownsRow_putObj hrow _ hK rfl, gb_step hgb (grownBy_putObj' W D _) (fun r e => .inl (by cases e; exact hwd))⟩
    gi_wp2
    refine ⟨by simp, .inl ⟨_, _, rfl, run_takeDeferred hK, ?_⟩⟩
    exact ⟨_, results_tmp rfl _ _ _, Av, cv, by simp, HF.out.1, HF.out.2⟩
theorem tp_collect (Bp Bs Bv : Nat) (hne : Bp ≠ Bs ∧ Bv ≠ Bs ∧ Bs ≠ 0) (s : List UInt8) (hs : s.length ≤ 4000) (w : World) (hB : SpAt w Bp Bs Bv s) : Calls Tryd.prog 21 #[.func (.func 47) #[] #[.pointer (some ⟨Bp, 0, none⟩), .pointer (some ⟨Bs, 0, none⟩), .pointer (some ⟨Bv, 0, none⟩)]] w fun r w' => ∃ A cap, r = .returned (.slice A (splitW s).length cap) ∧ Own w' w.heap.size 9 1 strCell A cap ((splitW s).map B) ∧ w.grownBy w' (some Bs) := by
  have cA := fun w1 h => Lib.hid (tp_appendseq Bp Bs Bv hne s hs w1 h)
  generalize (splitW s).map B = ws at *
  generalize (splitW s).length = n at *
  go_enter Tryd.func21, Tryd.ntmps21
  go_wp2_with (go_at_call 38; refine (cA _ hB).out.mono ?_; clear cA; rintro r w' ⟨A, cap, rfl, ho, hg⟩)
  go_ret
  exact ⟨A, cap, rfl, ho, hg⟩
end Go.Proofs.YtdpildbdbbfamaaDoor
