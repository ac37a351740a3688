/- A slice the call owns: a literal, an append of a whole slice, of none. -/
import Derived.Test.YtmpmfgkabjedpaaMgDo09
import Derived.Test.YtmpmfgkabjedpaaMgDo10
import Derived.Test.YtmpmfgkabjedpaaMgDo12
import Derived.Deep.Upon
namespace Go.Proofs.Ytmpmfgkabjedpaa
open Go.RowKit
set_option linter.unusedVariables false
set_option linter.unusedSimpArgs false
set_option maxRecDepth 100000
set_option maxHeartbeats 2000000
theorem flatMap_at {α : Type} {enc : α → List Value} (k : Nat) (hk : ∀ x, (enc x).length = k) : ∀ (xs : List α) (j : Nat) (u : Value), (xs.flatMap enc)[j]? = some u → ∃ i x t, xs[i]? = some x ∧ (enc x)[t]? = some u ∧ j = i * k + t
  | [], j, u, h => by simp at h
  | x :: xs, j, u, h => by
    rw [List.flatMap_cons] at h
    rcases Nat.lt_or_ge j (enc x).length with hj | hj
    · rw [List.getElem?_append_left hj] at h
      exact ⟨0, x, j, rfl, h, by omega⟩
    · rw [List.getElem?_append_right hj, hk] at h
      obtain ⟨i, y, t, h1, h2, h3⟩ := flatMap_at k hk xs _ u h
      rw [hk] at hj
      exact ⟨i + 1, y, t, by simpa using h1, h2, by rw [Nat.succ_mul]; omega⟩
theorem slice_news {α : Type} {w : World} {a off k : Nat} {enc : α → List Value} {xs : List α} (hk : ∀ x, (enc x).length = k) (hc : ∀ i x, xs[i]? = some x → ∀ j u, (enc x)[j]? = some u → w.cell? ⟨a, off + i * k + j, none⟩ = some u) :
    ∀ j u, (xs.flatMap enc)[j]? = some u → w.cell? ((⟨a, off, none⟩ : Addr).add j) = some u := by
  intro j u h
  obtain ⟨i, x, t, h1, h2, h3⟩ := flatMap_at k hk xs j u h
  have hadd : (⟨a, off, none⟩ : Addr).add j = ⟨a, off + j, none⟩ := by unfold Addr.add; split <;> simp_all
  rw [hadd, h3, ← Nat.add_assoc]
  exact hc i x h1 t u h2
theorem Own.lit {α : Type} {w : World} {base e k g : Nat} {enc : α → List Value} {xs : List α} {cs : Array Value} (hg : w.heap[g]? = some (.cells cs e (0, 0))) (hb : base ≤ g) (hx : cs.toList = xs.flatMap enc) (hl : (xs.flatMap enc).length = xs.length * k) (hm : xs.length ≤ maxLen) :
    Own w base e k enc (some ⟨g, 0, none⟩) xs.length xs :=
  ⟨hl, .inr ⟨g, xs.length, cs, rfl, hb, hg, Nat.le_refl _, hm, by rw [← Array.length_toList, hx, hl], by rw [hx, ← hl, List.take_length]⟩⟩
theorem wpList_append_none {P : Program} {ops : Array Oper} {rest : List Oper} {o : Oper} {a : Act} {Q : Exit → Act → World → Prop} (w : World) (hgd : o.guard = none) (s x : Operand) (t : TypeId)
    (ho : o.op = .call { callee := .builtin .append, args := #[s, x], argTypes := #[t, t] }) (e : TypeId) (i : TypeInfo) (ht : P.underlying t = some (.slice e)) (hi : P.info? e = some i)
    (base : Option Addr) (sLen sCap : Nat) (hle : sLen ≤ sCap) (A : Option Addr) (cap : Nat) (hs : a.eval s = .slice base sLen sCap) (hx : a.eval x = .slice A 0 cap)
    (h : wpList P ops Q rest (a.put o.dst (.slice base sLen sCap)) w) : wpList P ops Q (o :: rest) a w :=
  wpList_plain hgd fun _ hK => by
    have hr : (Builtin.append_ #[t, t] o.type #[.slice base sLen sCap, .slice A 0 cap]).run P w = .ok (.slice base sLen sCap) w := by
      refine run_append_nothing w t t _ e i ht hi base sLen sCap hle _ ?_
      cases A with
      | none => exact Src.ofNil w ht cap
      | some a => exact Src.ofSlice w ht a 0 cap [] (by simp) (fun j u hu => by simp at hu) (fun u hu => by cases hu)
    unfold Oper.wp execOp
    simp only [ho, resolve, invoke, builtin, Sem.run_bind, Sem.run_pure, Result.andThen_ok, List.map_toArray, List.map_cons, List.map_nil, hs, hx, hr]
    exact hK _ _ h
theorem Own.cons_of {α : Type} {w : World} {base e k g c : Nat} {enc : α → List Value} {x : α} {l : List α} (h : w.ownsRow base e k (.slice (some ⟨g, 0, none⟩) (1 + l.length) c) (1 + l.length) ([x].flatMap enc ++ l.flatMap enc)) : Own w base e k enc (some ⟨g, 0, none⟩) c (x :: l) := by
  have e1 : (x :: l).length = 1 + l.length := by simp; omega
  have e2 : (x :: l).flatMap enc = [x].flatMap enc ++ l.flatMap enc := by simp
  unfold Own
  rw [e1, e2]
  exact h
theorem cells_len {α : Type} {enc : α → List Value} (k : Nat) (hk : ∀ x, (enc x).length = k) (l : List α) : (l.flatMap enc).length = l.length * k := by
  induction l with
  | nil => simp
  | cons p l ih => rw [List.flatMap_cons, List.length_append, ih, hk, List.length_cons, Nat.succ_mul]; omega
theorem cells_one {α : Type} {enc : α → List Value} (h1 : ∀ x, ∀ u ∈ enc x, u.oneCell' = true) (l : List α) : ∀ u ∈ l.flatMap enc, u.oneCell' = true := by
  intro u hu
  obtain ⟨p, _, hp⟩ := List.mem_flatMap.1 hu
  exact h1 p u hp
/-- an append of a whole slice to a row of the call's own -/
theorem Own.app {α : Type} {w : World} {base e k g c : Nat} {enc : α → List Value} {xs l : List α} (h : w.ownsRow base e k (.slice (some ⟨g, 0, none⟩) (xs.length + l.length) c) (xs.length + l.length) (xs.flatMap enc ++ l.flatMap enc)) : Own w base e k enc (some ⟨g, 0, none⟩) c (xs ++ l) := by
  unfold Own
  rw [List.length_append, List.flatMap_append]
  exact h
end Go.Proofs.Ytmpmfgkabjedpaa
namespace Go.Proofs.Ytmpmfgkabjedpaa
open Go.RowKit
set_option linter.unusedVariables false
set_option linter.unusedSimpArgs false
set_option maxRecDepth 100000
set_option maxHeartbeats 4000000
theorem ceCell_len (x : Ce) : (ceCell x).length = 4 := rfl
theorem ceCell_one (x : Ce) : ∀ u ∈ ceCell x, u.oneCell' = true := by
  intro u hu
  simp [ceCell] at hu
  rcases hu with rfl | rfl | rfl | rfl <;> rfl
theorem lf_zc (n : Nat) : (Builtin.zeroCells #[.string { data := #[] }, .string { data := #[] }, .int .u32 0, .int .u32 0] n).size = n * 4 := by
  unfold Builtin.zeroCells; simp
theorem lf_clone (A : Option Addr) (n cap : Nat) (xs : List Ce) (hn : n = xs.length) (hcap : xs.length ≤ cap) (hcm : cap ≤ maxLen) (hl : xs.length ≤ 4000) (w : World) (hs : SliceAt w A 4 ceCell xs) :
    Calls Try.prog 38 #[.slice A n cap] w fun r w' => ∃ A' cap', r = .returned (.slice A' xs.length cap') ∧ Own w' w.heap.size 59 4 ceCell A' cap' xs ∧ Gr w w' := by
  subst hn
  unfold maxLen at hcm
  obtain ⟨ii, hii, hz0, hz1, hz2⟩ := info_parts sl_info_ce
  cases A with
  | none =>
    obtain rfl : xs = [] := by
      rcases hs with h0 | ⟨a, off, h0, hcell⟩
      · exact h0
      · cases h0
    have q1 : ∀ n c w1, (binOp .eql 22 (.slice none n c) (.slice none 0 0)).run Try.prog w1 = .ok (.bool true) w1 := fun n c w1 => by kernel_rfl
    simp only [List.length_nil] at *
    go_enter Try.func38, Try.ntmps38
    go_wp2

    go_ret
    exact ⟨none, 0, rfl, Own.nil _ _ _ _ _, Gr.refl _⟩
  | some ad =>
    have q1 : ∀ n c w1, (binOp .eql 22 (.slice (some ad) n c) (.slice none 0 0)).run Try.prog w1 = .ok (.bool false) w1 := fun n c w1 => by kernel_rfl
    have HO : Hid (Own (w.alloc (.cells #[] 59)) w.heap.size 59 4 ceCell (some ⟨w.heap.size, 0, none⟩) 0 ([] : List Ce)) := Own.lit (heap_alloc_last w _) (Nat.le_refl _) rfl rfl (by decide)
    have HG : Hid (Gr w (w.alloc (.cells #[] 59))) := (Gr.refl w).alloc _
    by_cases h0 : xs = []
    · subst h0
      simp only [List.length_nil] at *
      go_enter Try.func38, Try.ntmps38
      go_wp2_with (at_builtin; refine wpList_append_none _ rfl _ _ 22 rfl 59 ii Try.underlying22 hii (some ⟨w.heap.size, 0, none⟩) 0 0 (Nat.le_refl _) (some ad) cap rfl rfl ?_)
      go_ret
      exact ⟨_, _, rfl, HO.out, HG.out⟩
    · have hpos : 0 < xs.length := List.length_pos_iff.2 h0
      rcases hs with h1 | ⟨a, off, had, hcell⟩
      · exact absurd h1 h0
      · obtain rfl : ad = ⟨a, off, none⟩ := Option.some.inj had
        have HN := Lib.hid (slice_news ceCell_len hcell)
        have HC := Lib.hid hcell
        clear had hcell h0
        go_enter Try.func38, Try.ntmps38
        go_wp2_with (at_builtin; refine wpList_append_lies _ rfl _ _ 22 rfl w.heap.size 59 ii _ 4 40 Try.underlying22 hii hz0 hz1 hz2 rfl (by omega) (.slice (some ⟨w.heap.size, 0, none⟩) 0 0) 0 (([] : List Ce).flatMap ceCell) rfl HO.out ⟨a, off, none⟩ xs.length cap (xs.flatMap ceCell) rfl (cells_len 4 ceCell_len xs) (fun j u hu => HG.out.cells (HN.out j u hu)) (cells_one ceCell_one xs) hpos (by unfold maxLen; omega) (by omega) HG.out.size _ rfl ?_; intro gg cc v5 hown hgrow hat hlt5)
        have HT : Hid (Own v5 w.heap.size 59 4 ceCell (some ⟨gg, 0, none⟩) cc ([] ++ xs) ∧ Gr w v5) := ⟨Own.app hown, HO.out.grown hgrow HG.out (Nat.le_refl _)⟩
        clear hown hgrow hat
        go_ret
        exact ⟨_, _, by simp, HT.out.1, HT.out.2⟩
theorem lf_grow (m : Nat) (hm : m ≤ 4000) (w : World) :
    Calls Try.prog 82 #[.slice none 0 0, .int .i64 (m : Nat)] w fun r w' => ∃ A' cap', r = .returned (.slice A' 0 cap') ∧ Own w' w.heap.size 59 4 ceCell A' cap' [] ∧ Gr w w' := by
  obtain ⟨ii, hii, hz0, hz1, hz2⟩ := info_parts sl_info_ce
  by_cases h0 : m = 0
  · subst h0
    go_enter Try.func82, Try.ntmps82
    go_wp2
    go_ret
    exact ⟨none, 0, rfl, Own.nil _ _ _ _ _, Gr.refl _⟩
  · have hb : (Try.t59).bytes = 40 := by kernel_rfl
    have hns : Builtin.nextslicecap m 0 = m := by unfold Builtin.nextslicecap; simp; omega
    have h0' : (0 : Int) < (m : Int) := by omega
    go_enter Try.func82, Try.ntmps82
    go_wp2
    all_goals try (exfalso; simp only [hb, hns] at *; omega)
    go_ret
    have hc1 := (Question.appendCap m 0 59).cut (w.tape w.drawn (Question.appendCap m 0 59))
    refine ⟨_, _, rfl, ⟨rfl, .inr ⟨w.heap.size, _, _, rfl, Nat.le_refl _, heap_alloc_last w _, Nat.zero_le _, nd_cut_le m 0 59 _ hm, ?_, by simp⟩⟩, ((Gr.refl w).alloc _).drew⟩
    rw [Array.size_append, lf_zc, lf_zc]
    have := nd_cut_ge m 0 59 (w.tape w.drawn (Question.appendCap m 0 59))
    omega
end Go.Proofs.Ytmpmfgkabjedpaa
namespace Go.Proofs.Ytmpmfgkabjedpaa
open Go.RowKit
set_option linter.unusedVariables false
set_option linter.unusedSimpArgs false
set_option maxRecDepth 100000
set_option maxHeartbeats 4000000
theorem lf_concat (b : Nat) (A1 A2 : Option Addr) (c1 c2 : Nat) (xs ys : List Ce) (h1 : xs.length ≤ c1) (h2 : ys.length ≤ c2) (hm1 : c1 ≤ maxLen) (hm2 : c2 ≤ maxLen) (l1 : xs.length ≤ 1000) (l2 : ys.length ≤ 1000) (w : World)
    (p1 : w.cell? ⟨b, 0, none⟩ = some (.slice A1 xs.length c1)) (p2 : w.cell? ⟨b, 1, none⟩ = some (.slice A2 ys.length c2)) (hs1 : SliceAt w A1 4 ceCell xs) (hs2 : SliceAt w A2 4 ceCell ys) :
    Calls Try.prog 46 #[.slice (some ⟨b, 0, none⟩) 2 2] w fun r w' => ∃ A' cap', r = .returned (.slice A' (xs ++ ys).length cap') ∧ Own w' w.heap.size 59 4 ceCell A' cap' (xs ++ ys) ∧ Gr w w' := by
  unfold maxLen at hm1 hm2
  obtain ⟨ii, hii, hz0, hz1, hz2⟩ := info_parts sl_info_ce
  have HX := Lib.hid (And.intro hs1 hs2)
  have cG := fun w1 => Lib.hid (lf_grow (xs.length + ys.length) (by omega) w1)
  clear hs1 hs2
  go_enter Try.func46, Try.ntmps46
  go_wp2
  go_loopw [3, 11] (fun sz i wr => ((i = .int .i64 0 ∧ sz = .int .i64 0) ∨ (i = .int .i64 1 ∧ sz = .int .i64 ((xs.length : Nat) : Int)) ∨ (i = .int .i64 2 ∧ sz = .int .i64 ((xs.length + ys.length : Nat) : Int))) ∧ Hid (Gr w wr)) (fun _ i _ => 2 - (intOf i).toNat)
  case atStart => exact ⟨.inl ⟨rfl, rfl⟩, Gr.refl _⟩
  case round =>
    obtain ⟨hc, HR⟩ := hrel
    have q1 := HR.out.cells p1
    have q2 := HR.out.cells p2
    rcases hc with ⟨rfl, rfl⟩ | ⟨rfl, rfl⟩ | ⟨rfl, rfl⟩
    · have hw : IntKind.i64.wrap ((xs.length : Nat) : Int) = ((xs.length : Nat) : Int) := by rw [IntKind.wrap_i64]; omega
      have hn : ¬ ((xs.length : Nat) : Int) < 0 := by omega
      go_wp2
      go_roundw
      case rel => exact ⟨.inr (.inl ⟨by go_num, by go_num⟩), HR⟩
      case measure => decide
    · have hw : IntKind.i64.wrap (((xs.length : Nat) : Int) + ((ys.length : Nat) : Int)) = ((xs.length : Nat) : Int) + ((ys.length : Nat) : Int) := by rw [IntKind.wrap_i64]; omega
      have hn : ¬ ((xs.length : Nat) : Int) + ((ys.length : Nat) : Int) < 0 := by omega
      go_wp2
      go_roundw
      case rel => exact ⟨.inr (.inr ⟨by go_num, by go_num⟩), HR⟩
      case measure => decide
    · go_wp2_with (go_at_call 82; refine (cG _).out.mono ?_; clear cG; rintro r v1 ⟨A0, c0, rfl, hown, hg⟩; have HO : Hid (Own v1 w.heap.size 59 4 ceCell A0 c0 ([] : List Ce) ∧ Gr w v1) := ⟨hown.mono HR.out.size, HR.out.trans hg⟩; clear hown hg)
      have hv1 := Lib.hid (And.intro (HO.out.2.cells p1) (HO.out.2.cells p2))
      clear HR q1 q2
      generalize wr = wold
      go_loopw [6, 27] (fun v i wr => ∃ A' cap', ((i = .int .i64 0 ∧ v = .slice A' 0 cap' ∧ Hid (Own wr w.heap.size 59 4 ceCell A' cap' ([] : List Ce) ∧ Gr w wr)) ∨ (i = .int .i64 1 ∧ v = .slice A' xs.length cap' ∧ Hid (Own wr w.heap.size 59 4 ceCell A' cap' xs ∧ Gr w wr)) ∨ (i = .int .i64 2 ∧ v = .slice A' (xs ++ ys).length cap' ∧ Hid (Own wr w.heap.size 59 4 ceCell A' cap' (xs ++ ys) ∧ Gr w wr)))) (fun _ i _ => 2 - (intOf i).toNat)
      case atStart => exact ⟨_, _, .inl ⟨rfl, rfl, HO.out⟩⟩
      case round =>
        obtain ⟨A', cap', ⟨rfl, rfl, HR⟩ | ⟨rfl, rfl, HR⟩ | ⟨rfl, rfl, HR⟩⟩ := hrel
        · have q1 := HR.out.2.cells p1
          have q2 := HR.out.2.cells p2
          have hle := HR.out.1.cap_le
          by_cases h0 : xs = []
          · have hz : xs.length = 0 := by rw [h0]; rfl
            have HT : Hid (Own wr w.heap.size 59 4 ceCell A' cap' ([] ++ xs) ∧ Gr w wr) := by
              unfold Hid; rw [h0, List.append_nil]; exact HR.out
            have hle1 : 0 ≤ cap' := hle.1
            rw [hz] at q1
            clear hle hz
            have HH0 := Lib.hid h0
            clear h0
            go_wp2_with (at_builtin; refine wpList_append_none _ rfl _ _ 22 rfl 59 ii Try.underlying22 hii A' 0 cap' hle1 A1 c1 rfl rfl ?_)
            go_roundw
            case rel => exact ⟨A', cap', .inr <| .inl ⟨by go_num, by rw [HH0.out]; rfl, HT⟩⟩
            case measure => decide
          · have hpos : 0 < xs.length := List.length_pos_iff.2 h0
            rcases HX.out.1 with h1 | ⟨a, off, rfl, hcell⟩
            · exact absurd h1 h0
            · have HN := Lib.hid (slice_news ceCell_len hcell)
              clear hcell h0 hle
              go_wp2_with (at_builtin; refine wpList_append_lies _ rfl _ _ 22 rfl w.heap.size 59 ii _ 4 40 Try.underlying22 hii hz0 hz1 hz2 rfl (by omega) (.slice A' 0 cap') 0 (([] : List Ce).flatMap ceCell) rfl HR.out.1 ⟨a, off, none⟩ xs.length c1 (xs.flatMap ceCell) rfl (cells_len 4 ceCell_len xs) (fun j u hu => HR.out.2.cells (HN.out j u hu)) (cells_one ceCell_one xs) hpos (by unfold maxLen; omega) (by omega) HR.out.2.size _ rfl ?_; intro gg cc v5 hown hgrow hat hlt5)
              have HT : Hid (Own v5 w.heap.size 59 4 ceCell (some ⟨gg, 0, none⟩) cc ([] ++ xs) ∧ Gr w v5) := ⟨Own.app hown, HR.out.1.grown hgrow HR.out.2 (Nat.le_refl _)⟩
              clear hown hgrow hat HR
              go_roundw
              case rel => exact ⟨_, _, .inr <| .inl ⟨by go_num, by go_num, HT⟩⟩
              case measure => decide
        · have q1 := HR.out.2.cells p1
          have q2 := HR.out.2.cells p2
          have hle := HR.out.1.cap_le
          by_cases h0 : ys = []
          · have hz : ys.length = 0 := by rw [h0]; rfl
            have HT : Hid (Own wr w.heap.size 59 4 ceCell A' cap' (xs ++ ys) ∧ Gr w wr) := by
              unfold Hid; rw [h0, List.append_nil]; exact HR.out
            have hle1 : xs.length ≤ cap' := hle.1
            rw [hz] at q2
            clear hle hz
            have HH0 := Lib.hid h0
            clear h0
            go_wp2_with (at_builtin; refine wpList_append_none _ rfl _ _ 22 rfl 59 ii Try.underlying22 hii A' xs.length cap' hle1 A2 c2 rfl rfl ?_)
            go_roundw
            case rel => exact ⟨A', cap', .inr <| .inr ⟨by go_num, by rw [HH0.out, List.append_nil], HT⟩⟩
            case measure => decide
          · have hpos : 0 < ys.length := List.length_pos_iff.2 h0
            rcases HX.out.2 with h1 | ⟨a, off, rfl, hcell⟩
            · exact absurd h1 h0
            · have HN := Lib.hid (slice_news ceCell_len hcell)
              clear hcell h0 hle
              go_wp2_with (at_builtin; refine wpList_append_lies _ rfl _ _ 22 rfl w.heap.size 59 ii _ 4 40 Try.underlying22 hii hz0 hz1 hz2 rfl (by omega) (.slice A' xs.length cap') xs.length ((xs : List Ce).flatMap ceCell) rfl HR.out.1 ⟨a, off, none⟩ ys.length c2 (ys.flatMap ceCell) rfl (cells_len 4 ceCell_len ys) (fun j u hu => HR.out.2.cells (HN.out j u hu)) (cells_one ceCell_one ys) hpos (by unfold maxLen; omega) (by omega) HR.out.2.size _ rfl ?_; intro gg cc v5 hown hgrow hat hlt5)
              have HT : Hid (Own v5 w.heap.size 59 4 ceCell (some ⟨gg, 0, none⟩) cc (xs ++ ys) ∧ Gr w v5) := ⟨Own.app hown, HR.out.1.grown hgrow HR.out.2 (Nat.le_refl _)⟩
              clear hown hgrow hat HR
              go_roundw
              case rel => exact ⟨_, _, .inr <| .inr ⟨by go_num, by rw [List.length_append], HT⟩⟩
              case measure => decide
        · go_wp2
          go_ret
          exact ⟨_, _, rfl, HR.out.1, HR.out.2⟩
end Go.Proofs.Ytmpmfgkabjedpaa
namespace Go.Proofs.Ytmpmfgkabjedpaa
open Go.RowKit
set_option linter.unusedVariables false
set_option linter.unusedSimpArgs false
set_option maxRecDepth 100000
set_option maxHeartbeats 4000000
theorem kiCell_len (x : Ki) : (kiCell x).length = 2 := rfl
theorem kiCell_one (x : Ki) : ∀ u ∈ kiCell x, u.oneCell' = true := by
  intro u hu
  simp [kiCell] at hu
  rcases hu with rfl | rfl <;> rfl
theorem ki_zc (n : Nat) : (Builtin.zeroCells #[.string { data := #[] }, .int .u32 0] n).size = n * 2 := by
  unfold Builtin.zeroCells; simp
theorem ki_clone (A : Option Addr) (n cap : Nat) (xs : List Ki) (hn : n = xs.length) (hcap : xs.length ≤ cap) (hcm : cap ≤ maxLen) (hl : xs.length ≤ 4000) (w : World) (hs : SliceAt w A 2 kiCell xs) :
    Calls Try.prog 41 #[.slice A n cap] w fun r w' => ∃ A' cap', r = .returned (.slice A' xs.length cap') ∧ Own w' w.heap.size 61 2 kiCell A' cap' xs ∧ Gr w w' := by
  subst hn
  unfold maxLen at hcm
  obtain ⟨ii, hii, hz0, hz1, hz2⟩ := info_parts sl_info_ki
  cases A with
  | none =>
    obtain rfl : xs = [] := by
      rcases hs with h0 | ⟨a, off, h0, hcell⟩
      · exact h0
      · cases h0
    have q1 : ∀ n c w1, (binOp .eql 25 (.slice none n c) (.slice none 0 0)).run Try.prog w1 = .ok (.bool true) w1 := fun n c w1 => by kernel_rfl
    simp only [List.length_nil] at *
    go_enter Try.func41, Try.ntmps41
    go_wp2

    go_ret
    exact ⟨none, 0, rfl, Own.nil _ _ _ _ _, Gr.refl _⟩
  | some ad =>
    have q1 : ∀ n c w1, (binOp .eql 25 (.slice (some ad) n c) (.slice none 0 0)).run Try.prog w1 = .ok (.bool false) w1 := fun n c w1 => by kernel_rfl
    have HO : Hid (Own (w.alloc (.cells #[] 61)) w.heap.size 61 2 kiCell (some ⟨w.heap.size, 0, none⟩) 0 ([] : List Ki)) := Own.lit (heap_alloc_last w _) (Nat.le_refl _) rfl rfl (by decide)
    have HG : Hid (Gr w (w.alloc (.cells #[] 61))) := (Gr.refl w).alloc _
    by_cases h0 : xs = []
    · subst h0
      simp only [List.length_nil] at *
      go_enter Try.func41, Try.ntmps41
      go_wp2_with (at_builtin; refine wpList_append_none _ rfl _ _ 25 rfl 61 ii Try.underlying25 hii (some ⟨w.heap.size, 0, none⟩) 0 0 (Nat.le_refl _) (some ad) cap rfl rfl ?_)
      go_ret
      exact ⟨_, _, rfl, HO.out, HG.out⟩
    · have hpos : 0 < xs.length := List.length_pos_iff.2 h0
      rcases hs with h1 | ⟨a, off, had, hcell⟩
      · exact absurd h1 h0
      · obtain rfl : ad = ⟨a, off, none⟩ := Option.some.inj had
        have HN := Lib.hid (slice_news kiCell_len hcell)
        have HC := Lib.hid hcell
        clear had hcell h0
        go_enter Try.func41, Try.ntmps41
        go_wp2_with (at_builtin; refine wpList_append_lies _ rfl _ _ 25 rfl w.heap.size 61 ii _ 2 24 Try.underlying25 hii hz0 hz1 hz2 rfl (by omega) (.slice (some ⟨w.heap.size, 0, none⟩) 0 0) 0 (([] : List Ki).flatMap kiCell) rfl HO.out ⟨a, off, none⟩ xs.length cap (xs.flatMap kiCell) rfl (cells_len 2 kiCell_len xs) (fun j u hu => HG.out.cells (HN.out j u hu)) (cells_one kiCell_one xs) hpos (by unfold maxLen; omega) (by omega) HG.out.size _ rfl ?_; intro gg cc v5 hown hgrow hat hlt5)
        have HT : Hid (Own v5 w.heap.size 61 2 kiCell (some ⟨gg, 0, none⟩) cc ([] ++ xs) ∧ Gr w v5) := ⟨Own.app hown, HO.out.grown hgrow HG.out (Nat.le_refl _)⟩
        clear hown hgrow hat
        go_ret
        exact ⟨_, _, by simp, HT.out.1, HT.out.2⟩
theorem ki_grow (m : Nat) (hm : m ≤ 4000) (w : World) :
    Calls Try.prog 83 #[.slice none 0 0, .int .i64 (m : Nat)] w fun r w' => ∃ A' cap', r = .returned (.slice A' 0 cap') ∧ Own w' w.heap.size 61 2 kiCell A' cap' [] ∧ Gr w w' := by
  obtain ⟨ii, hii, hz0, hz1, hz2⟩ := info_parts sl_info_ki
  by_cases h0 : m = 0
  · subst h0
    go_enter Try.func83, Try.ntmps83
    go_wp2
    go_ret
    exact ⟨none, 0, rfl, Own.nil _ _ _ _ _, Gr.refl _⟩
  · have hb : (Try.t61).bytes = 24 := by kernel_rfl
    have hns : Builtin.nextslicecap m 0 = m := by unfold Builtin.nextslicecap; simp; omega
    have h0' : (0 : Int) < (m : Int) := by omega
    go_enter Try.func83, Try.ntmps83
    go_wp2
    all_goals try (exfalso; simp only [hb, hns] at *; omega)
    go_ret
    have hc1 := (Question.appendCap m 0 61).cut (w.tape w.drawn (Question.appendCap m 0 61))
    refine ⟨_, _, rfl, ⟨rfl, .inr ⟨w.heap.size, _, _, rfl, Nat.le_refl _, heap_alloc_last w _, Nat.zero_le _, nd_cut_le m 0 61 _ hm, ?_, by simp⟩⟩, ((Gr.refl w).alloc _).drew⟩
    rw [Array.size_append, ki_zc, ki_zc]
    have := nd_cut_ge m 0 61 (w.tape w.drawn (Question.appendCap m 0 61))
    omega
end Go.Proofs.Ytmpmfgkabjedpaa
