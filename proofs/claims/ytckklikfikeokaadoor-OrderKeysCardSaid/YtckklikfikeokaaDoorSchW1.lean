/- Layer 18: a key of a sort, the bounds under it; the texts gone through. -/
import Derived.Test.YtckklikfikeokaaDoorOrdW2
import Derived.Test.YtckklikfikeokaaDoorOwn2
import Derived.Deep.Upon
namespace Go.Proofs.YtckklikfikeokaaDoor
open Go.RowKit
set_option linter.unusedVariables false
set_option linter.unusedSimpArgs false
set_option maxRecDepth 100000
set_option maxHeartbeats 2000000
theorem flatMap_at {α : Type} {enc : α → List Value} (k : Nat) (hk : ∀ x, (enc x).length = k) : ∀ (xs : List α) (j : Nat) (u : Value), (xs.flatMap enc)[j]? = some u → ∃ i x t, xs[i]? = some x ∧ (enc x)[t]? = some u ∧ j = i * k + t
  | [], j, u, h => by simp at h
  | x :: xs, j, u, h => by
    rw [List.flatMap_cons] at h
    rcases Nat.lt_or_ge j (enc x).length with hj | hj
    · rw [List.getElem?_append_left hj] at h
      exact ⟨0, x, j, rfl, h, by omega⟩
    · rw [List.getElem?_append_right hj, hk] at h
      obtain ⟨i, y, t, h1, h2, h3⟩ := flatMap_at k hk xs _ u h
      rw [hk] at hj
      exact ⟨i + 1, y, t, by simpa using h1, h2, by rw [Nat.succ_mul]; omega⟩
theorem slice_news {α : Type} {w : World} {a off k : Nat} {enc : α → List Value} {xs : List α} (hk : ∀ x, (enc x).length = k) (hc : ∀ i x, xs[i]? = some x → ∀ j u, (enc x)[j]? = some u → w.cell? ⟨a, off + i * k + j, none⟩ = some u) :
    ∀ j u, (xs.flatMap enc)[j]? = some u → w.cell? ((⟨a, off, none⟩ : Addr).add j) = some u := by
  intro j u h
  obtain ⟨i, x, t, h1, h2, h3⟩ := flatMap_at k hk xs j u h
  have hadd : (⟨a, off, none⟩ : Addr).add j = ⟨a, off + j, none⟩ := by unfold Addr.add; split <;> simp_all
  rw [hadd, h3, ← Nat.add_assoc]
  exact hc i x h1 t u h2
theorem Own.lit {α : Type} {w : World} {base e k g : Nat} {enc : α → List Value} {xs : List α} {cs : Array Value} (hg : w.heap[g]? = some (.cells cs e (0, 0))) (hb : base ≤ g) (hx : cs.toList = xs.flatMap enc) (hl : (xs.flatMap enc).length = xs.length * k) (hm : xs.length ≤ maxLen) :
    Own w base e k enc (some ⟨g, 0, none⟩) xs.length xs :=
  ⟨hl, .inr ⟨g, xs.length, cs, rfl, hb, hg, Nat.le_refl _, hm, by rw [← Array.length_toList, hx, hl], by rw [hx, ← hl, List.take_length]⟩⟩
theorem wpList_append_none {P : Program} {ops : Array Oper} {rest : List Oper} {o : Oper} {a : Act} {Q : Exit → Act → World → Prop} (w : World) (hgd : o.guard = none) (s x : Operand) (t : TypeId)
    (ho : o.op = .call { callee := .builtin .append, args := #[s, x], argTypes := #[t, t] }) (e : TypeId) (i : TypeInfo) (ht : P.underlying t = some (.slice e)) (hi : P.info? e = some i)
    (base : Option Addr) (sLen sCap : Nat) (hle : sLen ≤ sCap) (A : Option Addr) (cap : Nat) (hs : a.eval s = .slice base sLen sCap) (hx : a.eval x = .slice A 0 cap)
    (h : wpList P ops Q rest (a.put o.dst (.slice base sLen sCap)) w) : wpList P ops Q (o :: rest) a w :=
  wpList_plain hgd fun _ hK => by
    have hr : (Builtin.append_ #[t, t] o.type #[.slice base sLen sCap, .slice A 0 cap]).run P w = .ok (.slice base sLen sCap) w := by
      refine run_append_nothing w t t _ e i ht hi base sLen sCap hle _ ?_
      cases A with
      | none => exact Src.ofNil w ht cap
      | some a => exact Src.ofSlice w ht a 0 cap [] (by simp) (fun j u hu => by simp at hu) (fun u hu => by cases hu)
    unfold Oper.wp execOp
    simp only [ho, resolve, invoke, builtin, Sem.run_bind, Sem.run_pure, Result.andThen_ok, List.map_toArray, List.map_cons, List.map_nil, hs, hx, hr]
    exact hK _ _ h
theorem Own.cons_of {α : Type} {w : World} {base e k g c : Nat} {enc : α → List Value} {x : α} {l : List α} (h : w.ownsRow base e k (.slice (some ⟨g, 0, none⟩) (1 + l.length) c) (1 + l.length) ([x].flatMap enc ++ l.flatMap enc)) : Own w base e k enc (some ⟨g, 0, none⟩) c (x :: l) := by
  have e1 : (x :: l).length = 1 + l.length := by simp; omega
  have e2 : (x :: l).flatMap enc = [x].flatMap enc ++ l.flatMap enc := by simp
  unfold Own
  rw [e1, e2]
  exact h
theorem paCell_len (p : Pa) : (paCell p).length = 3 := rfl
theorem paCells_len (l : List Pa) : (l.flatMap paCell).length = l.length * 3 := by
  induction l with
  | nil => rfl
  | cons p l ih => rw [List.flatMap_cons, List.length_append, ih, paCell_len, List.length_cons]; omega
theorem paCells_one (l : List Pa) : ∀ u ∈ l.flatMap paCell, u.oneCell' = true := by
  intro u hu
  obtain ⟨p, _, hp⟩ := List.mem_flatMap.1 hu
  simp [paCell] at hp
  rcases hp with rfl | rfl | rfl <;> rfl
theorem or_str (s : ByteArray) (w : World) :
    Calls Tryd.prog 26 #[.string s] w fun r w' => r = .returned (.agg #[.bool true, .int .u64 0, .string s]) ∧ Gr w w' := by
  go_enter Tryd.func26, Tryd.ntmps26
  go_wp2
  refine bodyPost_ret (v := .agg #[.bool true, .int .u64 0, .string s]) (results_cell_row rfl _ _ w.heap.size _ #[.bool true, .int .u64 0, .string s] (0, 0) (.struct _) rfl (heap_alloc_last _ _) Tryd.underlying30 rfl (by kernel_rfl)) rfl ⟨rfl, (Gr.refl w).alloc _⟩
theorem r4_str (s : ByteArray) (w : World) :
    Calls Tryd.prog 10 #[.string s] w fun r w' => r = .returned (.agg #[.bool true, .int .u64 0, .string s]) ∧ Gr w w' := by
  go_enter Tryd.func10, Tryd.ntmps10
  go_wp2
  refine bodyPost_ret (v := .agg #[.bool true, .int .u64 0, .string s]) (results_cell_row rfl _ _ w.heap.size _ #[.bool true, .int .u64 0, .string s] (0, 0) (.struct _) rfl (heap_alloc_last _ _) Tryd.underlying27 rfl (by kernel_rfl)) rfl ⟨rfl, (Gr.refl w).alloc _⟩
theorem or_infoPa : (Tryd.prog.info? 30).map (fun i => (i.zero, i.size, i.bytes)) = some (some (.agg #[.bool false, .int .u64 0, .string { data := #[] }]), 3, 32) := by kernel_rfl
theorem paB_len (p : Pa) (hp : p.2.2.size ≤ 10000) : (paB p).length ≤ 100000 := by
  obtain ⟨t, n, s⟩ := p
  simp only at hp
  have h2 := esc_length s.data.toList
  have h3 : s.data.toList.length = s.size := by simp
  cases t <;> simp [paB, Oct.be_length] <;> omega
/-- order.Key of a row of parts, none of them long -/
theorem or_keyP (A : Option Addr) (cap : Nat) (l : List Pa) (hcap : l.length ≤ cap) (hcm : cap ≤ maxLen) (hok : ∀ p ∈ l, paOk p ∧ p.2.2.size ≤ 10000) (w : World) (hml : ∃ m, w.cell? ⟨0, 0, none⟩ = some (.int .i64 m)) (hs : SliceAt w A 3 paCell l) :
    Calls Tryd.prog 17 #[.slice A l.length cap] w fun r w' => r = .returned (.tuple #[.string (keyAns l).1, .int .i64 (keyAns l).2]) ∧ Gr w w' :=
  or_key A cap l hcap hcm (fun p hp => paB_len p (hok p hp).2) w hs fun p hp W hg => pa_bytes p (hok p hp).1 (hok p hp).2 W (by obtain ⟨m, hm⟩ := hml; exact ⟨m, hg.cells hm⟩)
theorem sc_key (S : ByteArray) (hS : S.size ≤ 10000) (A : Option Addr) (cap : Nat) (l : List Pa) (hl : l.length ≤ 1000) (hcap : l.length ≤ cap) (hcm : cap ≤ maxLen) (hok : ∀ p ∈ l, paOk p ∧ p.2.2.size ≤ 10000) (w : World) (hml : ∃ m, w.cell? ⟨0, 0, none⟩ = some (.int .i64 m)) (hs : SliceAt w A 3 paCell l) :
    Calls Tryd.prog 29 #[.string S, .slice A l.length cap] w fun r w' => r = .returned (.tuple #[.string (keyAns ((true, 0, S) :: l)).1, .int .i64 (keyAns ((true, 0, S) :: l)).2]) ∧ Gr w w' := by
  unfold maxLen at hcm
  obtain ⟨ii, hii, hz0, hz1, hz2⟩ := info_parts or_infoPa
  have cS := fun w1 => Lib.hid (or_str S w1)
  have cK : ∀ (A2 : Option Addr) (cap2 : Nat) (w2 : World), Gr w w2 → Own w2 w.heap.size 30 3 paCell A2 cap2 ((true, 0, S) :: l) →
      Hid (Calls Tryd.prog 17 #[.slice A2 (1 + l.length) cap2] w2 fun r w' => r = .returned (.tuple #[.string (keyAns ((true, 0, S) :: l)).1, .int .i64 (keyAns ((true, 0, S) :: l)).2]) ∧ Gr w2 w') := by
    intro A2 cap2 w2 hg hown
    have h1 : 1 + l.length = ((true, 0, S) :: l : List Pa).length := by simp; omega
    rw [h1]
    refine or_keyP A2 cap2 _ hown.cap_le.1 hown.cap_le.2 ?_ w2 (by obtain ⟨m, hm⟩ := hml; exact ⟨m, hg.cells hm⟩) (hown.slice paCell_len)
    intro p hp
    rcases List.mem_cons.1 hp with rfl | hp
    · exact ⟨by show (0 : Nat) < _; omega, hS⟩
    · exact hok p hp
  obtain ⟨ka, hka⟩ : ∃ ka, ka = keyAns ((true, 0, S) :: l) := ⟨_, rfl⟩
  rw [← hka] at cK ⊢
  clear hka
  have HX := Lib.hid hs
  clear hs hml hok
  have HL : Hid (∀ (w2 : World) (g : Nat), w.heap.size ≤ g → w2.heap[g]? = some (.cells #[.bool true, .int .u64 0, .string S] 30 (0, 0)) → Own w2 w.heap.size 30 3 paCell (some ⟨g, 0, none⟩) 1 [((true, 0, S) : Pa)]) :=
    fun w2 g hb hg => Own.lit (xs := [((true, 0, S) : Pa)]) hg hb rfl rfl (by show 1 ≤ maxLen; decide)
  by_cases h0 : l = []
  · subst h0
    simp only [List.length_nil] at cK hcap ⊢
    go_enter Tryd.func29, Tryd.ntmps29
    go_wp2_with (first
      | (go_at_call 26; refine (cS _).out.mono ?_; clear cS; rintro r v1 ⟨rfl, hg⟩; have HG1 := Lib.hid hg; clear hg; have HG2 : Hid (Gr w (v1.alloc (.cells #[.bool true, .int .u64 0, .string S] 30))) := HG1.out.alloc _; have HO := Lib.hid (HL.out _ _ HG1.out.size (heap_alloc_last v1 (.cells #[.bool true, .int .u64 0, .string S] 30))))
      | (at_builtin; refine wpList_append_none _ rfl _ _ 22 rfl 30 ii Tryd.underlying22 hii (some ⟨v1.heap.size, 0, none⟩) 1 1 (by omega) A cap rfl rfl ?_)
      | (go_at_call 17; refine (cK _ _ _ HG2.out HO.out).out.mono ?_; clear cK; rintro r v3 ⟨rfl, hg⟩; have HG3 := Lib.hid (HG2.out.trans hg); clear hg))
    go_ret2
    exact ⟨rfl, HG3.out⟩
  · have hpos : 0 < l.length := List.length_pos_iff.2 h0
    rcases HX.out with h1 | ⟨a, off, rfl, hcell⟩
    · exact absurd h1 h0
    have HC := Lib.hid hcell
    clear hcell h0
    go_enter Tryd.func29, Tryd.ntmps29
    go_wp2_with (first
      | (go_at_call 26; refine (cS _).out.mono ?_; clear cS; rintro r v1 ⟨rfl, hg⟩; have HG1 := Lib.hid hg; clear hg; have HG2 : Hid (Gr w (v1.alloc (.cells #[.bool true, .int .u64 0, .string S] 30))) := HG1.out.alloc _; have HO := Lib.hid (HL.out _ _ HG1.out.size (heap_alloc_last v1 (.cells #[.bool true, .int .u64 0, .string S] 30))); have HZ : Hid (w.heap.size ≤ (v1.alloc (.cells #[.bool true, .int .u64 0, .string S] 30)).heap.size) := HG2.out.size)
      | (at_builtin; go_loud (refine wpList_append_lies _ rfl _ _ 22 rfl w.heap.size 30 ii _ 3 32 Tryd.underlying22 hii hz0 hz1 hz2 rfl (by omega) (.slice (some ⟨v1.heap.size, 0, none⟩) 1 1) 1 ([((true, 0, S) : Pa)].flatMap paCell) rfl HO.out ⟨a, off, none⟩ l.length cap (l.flatMap paCell) rfl (paCells_len l) (slice_news paCell_len fun i x hx j u hu => HG2.out.cells (HC.out i x hx j u hu)) (paCells_one l) hpos (show 1 + l.length ≤ 9223372036854775807 by omega) (show (1 + l.length) * 32 ≤ 140737488355328 by omega) HZ.out _ rfl ?_; intro gg cc v5 hown hgrow hat hlt5; have HG5 : Hid (Gr w v5) := HO.out.grown hgrow HG2.out (Nat.le_refl _); have HO5 : Hid (Own v5 w.heap.size 30 3 paCell (some ⟨gg, 0, none⟩) cc ((true, 0, S) :: l)) := Own.cons_of hown; clear hown hgrow hat))
      | (go_at_call 17; refine (cK _ _ _ HG5.out HO5.out).out.mono ?_; clear cK; rintro r v3 ⟨rfl, hg⟩; have HG3 := Lib.hid (HG5.out.trans hg); clear hg))
    go_ret2
    exact ⟨rfl, HG3.out⟩
end Go.Proofs.YtckklikfikeokaaDoor
