/- Layer 20: Match. -/
import Derived.Test.YtdpildbdbbfamaaDoorTpStep
namespace Go.Proofs.YtdpildbdbbfamaaDoor
open Go.RowKit Go.Shelf
set_option linter.unusedVariables false
set_option linter.unusedSimpArgs false
set_option maxRecDepth 100000
set_option maxHeartbeats 2000000
attribute [local go_sem] Oper.semAt_some
theorem tp_stops0 (n : Nat) (n0 : Nat) (w : World) : SeqStopsK Fence.wide n Tryd.prog 32 #[] (fun x : ByteArray => #[Value.string x]) (Below n0) (fun ys => ys = []) (fun _ => False) 0 w := fun l J Jx W hW hJ hJx hY h0 => by
  refine callsIn_of_wp Tryd.func32 rfl trivial ?_ rfl
  simp only [Tryd.ntmps32, List.size_toArray, List.length_cons, List.length_nil, Nat.reduceAdd, Nat.reduceSub, Array.replicate_succ, Array.replicate_zero, List.push_toArray, List.append_toArray, List.nil_append, List.cons_append]
  gi_wp2
  go_end0
  exact ⟨⟨_, rfl⟩, by first | exact h0 | exact ⟨[], rfl, h0⟩ | exact Or.inl ⟨[], rfl, h0⟩⟩
theorem tp_append0 (w : World) : Calls Tryd.prog 38 #[.slice none 0 0, .func (.func 32) #[] #[]] w fun r w' => r = .returned (.slice none 0 0) ∧ Gr w w' := by
  refine (callsIn_wide (n := 6)).1 ?_
  refine callsIn_of_wp_marks Tryd.func38 rfl trivial ?_ rfl
  simp only [Tryd.ntmps38, List.size_toArray, List.length_cons, List.length_nil, Nat.reduceAdd, Nat.reduceSub, Array.replicate_succ, Array.replicate_zero, List.push_toArray, List.append_toArray, List.nil_append, List.cons_append]
  gi_wp2
  have bO := Boxed.new w 32 (.slice none 0 0)
  have hB0 : Below w.heap.size w (w.alloc (.cells #[.slice none 0 0] 32)) := (Below.refl _ w).alloc (Nat.le_refl _) _
  refine wpIn_rangeFunc_ownG rfl (by omega) (gf := 32) (lb := #[]) rfl trivial (enters_of Tryd.func32 (by kernel_rfl) rfl)
    (tp_stops0 (6 - 1) w.heap.size _) belowK_t (belowK_b (by simp)) (Below.refl _ _) (fun _ => rfl)
    (fun pre W => Boxed W w.heap.size 32 (.slice none 0 0) ∧ Below w.heap.size w W)
    (fun _ _ _ => False)
    (OwnFrom.and (Go.Own.from (boxed_own _ _ _) _) (ownFrom_below (Nat.le_refl _) (by simp)))
    (fun _ _ _ _ _ hs _ _ => hs)
    ⟨bO, hB0⟩
    (fun x => { tmps := #[.slice none 0 0, .func (.func 32) #[] #[], .pointer (some ⟨w.heap.size, 0, none⟩), undef, .slice none 0 0, .string x, .func (.func 32) #[] #[], .string x, undef, undef, undef, undef, undef], defers := [] }) ?assign ?body ?done ?stop
  case assign =>
    intro l x W K hK
    gi_wp2
    exact hK
  case body =>
    rintro l pre x W _ hlt
    omega
  case done =>
    rintro D ys W hD rfl ⟨hv, hB⟩ hK
    have hc := hv.cell
    gi_wp2
    refine ⟨by simp, .inl ⟨_, _, rfl, run_takeDeferred hK, ?_⟩⟩
    exact ⟨_, results_tmp rfl _ _ _, rfl, hB.trans (belowK_b (w := w) (Nat.le_refl _) W D _ _ (by rw [World.size_alloc] at hD; omega) hK rfl rfl)⟩
  case stop =>
    rintro D c pre W _ _ h _
    exact h.elim
theorem tp_collect0 (w : World) : Calls Tryd.prog 21 #[.func (.func 32) #[] #[]] w fun r w' => r = .returned (.slice none 0 0) ∧ Gr w w' := by
  go_enter Tryd.func21, Tryd.ntmps21
  go_wp2_with (go_at_call 38; refine (tp_append0 _).mono ?_; rintro r w' ⟨rfl, hg⟩)
  go_ret
  exact ⟨rfl, hg⟩
/-- the value of Words, of a text -/
def WdAt (base : Nat) (w : World) (v : Value) (s : List UInt8) : Prop :=
  (s = [] ∧ v = .func (.func 32) #[] #[]) ∨
  (s ≠ [] ∧ ∃ Bp Bs Bv, v = .func (.func 47) #[] #[.pointer (some ⟨Bp, 0, none⟩), .pointer (some ⟨Bs, 0, none⟩), .pointer (some ⟨Bv, 0, none⟩)] ∧ (Bp ≠ Bs ∧ Bv ≠ Bs ∧ Bs ≠ 0) ∧ (base ≤ Bs ∧ base ≤ Bp ∧ base ≤ Bv) ∧ SpAt w Bp Bs Bv s)
theorem tp_wordsW (s : List UInt8) (w : World) (hm : ∃ m, w.cell? ⟨0, 0, none⟩ = some (.int .i64 m)) : Calls Tryd.prog 14 #[.string (B s)] w fun r w' => ∃ v, r = .returned v ∧ WdAt w.heap.size w' v s ∧ Gr w w' := by
  by_cases hs : s = []
  · subst hs
    refine (tp_words0 w).mono ?_
    rintro r w' ⟨rfl, rfl⟩
    exact ⟨_, rfl, .inl ⟨rfl, rfl⟩, Gr.refl _⟩
  · refine (tp_words s hs w hm).mono ?_
    rintro r w' ⟨rfl, h, hg⟩
    have h0 : 0 < w.heap.size := by
      obtain ⟨m, hm⟩ := hm
      exact block_lt_of_cell hm
    exact ⟨_, rfl, .inr ⟨hs, _, _, _, rfl, ⟨by omega, by omega, by omega⟩, ⟨by omega, by omega, by omega⟩, h⟩, hg⟩
theorem tp_collectW (s : List UInt8) (hs : s.length ≤ 4000) (base : Nat) (v : Value) (w0 w : World) (h : WdAt base w v s) (hb : w0.heap.size ≤ base) (hg : Gr w0 w) : Calls Tryd.prog 21 #[v] w fun r w' => ∃ A cap, r = .returned (.slice A (wordsL s).length cap) ∧ SliceAt w' A 1 strCell ((wordsL s).map B) ∧ Gr w0 w' := by
  rcases h with ⟨rfl, rfl⟩ | ⟨hne, Bp, Bs, Bv, rfl, h1, h2, h3⟩
  · refine (tp_collect0 w).mono ?_
    rintro r w' ⟨rfl, hg2⟩
    exact ⟨none, 0, rfl, .inl rfl, hg.trans hg2⟩
  · refine (tp_collect Bp Bs Bv h1 s hs w h3).mono ?_
    rintro r w' ⟨A, cap, rfl, ho, hg2⟩
    have e : wordsL s = splitW s := if_neg hne
    rw [e]
    exact ⟨A, cap, rfl, ho.slice (fun _ => rfl), gb_gr hg hg2 (Nat.le_trans hb h2.1)⟩
theorem at0 {W : World} {g n : Nat} (h : W.heap[g]? = some (.cells ((madeCells #[.bool false] (n + 1)).setIfInBounds 0 (.bool true)) 4 (0, 0))) : OutAt W g (fun j => j == 0) (n + 1) (n + 1) := by
  refine ⟨_, h, by rw [Array.size_setIfInBounds, size_madeCells], fun j hj => ?_⟩
  by_cases he : j = 0
  · subst he
    rw [Array.getElem?_setIfInBounds_self_of_lt (by rw [size_madeCells]; omega)]
    rfl
  · rw [Array.getElem?_setIfInBounds_ne (Ne.symm he)]
    have h1 := toList_madeCells_one (.bool false) (n + 1)
    rw [← Array.getElem?_toList, h1, List.getElem?_replicate, if_pos hj]
    have h2 : (j == 0) = false := by simpa using he
    show some (Value.bool false) = some (Value.bool (j == 0))
    rw [h2]
theorem WdAt.ne {base : Nat} {w : World} {v : Value} {s : List UInt8} (h : WdAt base w v s) (hs : s ≠ []) : ∃ Bp Bs Bv, v = .func (.func 47) #[] #[.pointer (some ⟨Bp, 0, none⟩), .pointer (some ⟨Bs, 0, none⟩), .pointer (some ⟨Bv, 0, none⟩)] ∧ (Bp ≠ Bs ∧ Bv ≠ Bs ∧ Bs ≠ 0) ∧ (base ≤ Bs ∧ base ≤ Bp ∧ base ≤ Bv) ∧ SpAt w Bp Bs Bv s := by
  rcases h with ⟨h1, _⟩ | ⟨_, h2⟩
  · exact absurd h1 hs
  · exact h2
theorem tp_start {w v2 : World} {AK : Option Addr} {n cK : Nat} {ws : List ByteArray} (hsl : SliceAt v2 AK 1 strCell ws) (hg : Gr w v2) :
    (∃ c, (((v2.alloc (.cells #[.slice AK n cK] 32)).alloc (.cells (madeCells #[.bool false] (n + 1)) 4)).alloc (.cells #[.slice (some ⟨v2.heap.size + 1, 0, none⟩) (n + 1) (n + 1)] 39)).cell? ⟨v2.heap.size + 1, 0, none⟩ = some c) ∧ (((v2.alloc (.cells #[.slice AK n cK] 32)).alloc (.cells (madeCells #[.bool false] (n + 1)) 4)).alloc (.cells #[.slice (some ⟨v2.heap.size + 1, 0, none⟩) (n + 1) (n + 1)] 39)).frozen? ⟨v2.heap.size + 1, 0, none⟩ = false ∧
    Gr w (((v2.alloc (.cells #[.slice AK n cK] 32)).alloc (.cells ((madeCells #[.bool false] (n + 1)).setIfInBounds 0 (.bool true)) 4)).alloc (.cells #[.slice (some ⟨v2.heap.size + 1, 0, none⟩) (n + 1) (n + 1)] 39)) ∧ SliceAt (((v2.alloc (.cells #[.slice AK n cK] 32)).alloc (.cells ((madeCells #[.bool false] (n + 1)).setIfInBounds 0 (.bool true)) 4)).alloc (.cells #[.slice (some ⟨v2.heap.size + 1, 0, none⟩) (n + 1) (n + 1)] 39)) AK 1 strCell ws ∧ SliceAt (((v2.alloc (.cells #[.slice AK n cK] 32)).alloc (.cells ((madeCells #[.bool false] (n + 1)).setIfInBounds 0 (.bool true)) 4)).alloc (.cells #[.slice (some ⟨v2.heap.size + 1, 0, none⟩) (n + 1) (n + 1)] 39)) (some ⟨v2.heap.size + 1, 0, none⟩) 1 blCell ((List.range (n + 1)).map (fun j => j == 0)) ∧
    (((v2.alloc (.cells #[.slice AK n cK] 32)).alloc (.cells ((madeCells #[.bool false] (n + 1)).setIfInBounds 0 (.bool true)) 4)).alloc (.cells #[.slice (some ⟨v2.heap.size + 1, 0, none⟩) (n + 1) (n + 1)] 39)).heap[v2.heap.size]? = some (.cells #[.slice AK n cK] 32 (0, 0)) ∧ (((v2.alloc (.cells #[.slice AK n cK] 32)).alloc (.cells ((madeCells #[.bool false] (n + 1)).setIfInBounds 0 (.bool true)) 4)).alloc (.cells #[.slice (some ⟨v2.heap.size + 1, 0, none⟩) (n + 1) (n + 1)] 39)).heap[v2.heap.size + 1 + 1]? = some (.cells #[.slice (some ⟨v2.heap.size + 1, 0, none⟩) (n + 1) (n + 1)] 39 (0, 0)) ∧ v2.heap.size + 1 + 1 < (((v2.alloc (.cells #[.slice AK n cK] 32)).alloc (.cells ((madeCells #[.bool false] (n + 1)).setIfInBounds 0 (.bool true)) 4)).alloc (.cells #[.slice (some ⟨v2.heap.size + 1, 0, none⟩) (n + 1) (n + 1)] 39)).heap.size := by
  obtain ⟨r0, r1, r2⟩ := heap_alloc3 v2 (.cells #[.slice AK n cK] 32) (.cells (madeCells #[.bool false] (n + 1)) 4) (.cells #[.slice (some ⟨v2.heap.size + 1, 0, none⟩) (n + 1) (n + 1)] 39)
  obtain ⟨q0, q1, q2⟩ := heap_alloc3 v2 (.cells #[.slice AK n cK] 32) (.cells ((madeCells #[.bool false] (n + 1)).setIfInBounds 0 (.bool true)) 4) (.cells #[.slice (some ⟨v2.heap.size + 1, 0, none⟩) (n + 1) (n + 1)] 39)
  have hgr : Gr v2 (((v2.alloc (.cells #[.slice AK n cK] 32)).alloc (.cells ((madeCells #[.bool false] (n + 1)).setIfInBounds 0 (.bool true)) 4)).alloc (.cells #[.slice (some ⟨v2.heap.size + 1, 0, none⟩) (n + 1) (n + 1)] 39)) := (((Gr.refl v2).alloc _).alloc _).alloc _
  have hO : OutAt (((v2.alloc (.cells #[.slice AK n cK] 32)).alloc (.cells (madeCells #[.bool false] (n + 1)) 4)).alloc (.cells #[.slice (some ⟨v2.heap.size + 1, 0, none⟩) (n + 1) (n + 1)] 39)) (v2.heap.size + 1) (fun j => j == 0) (n + 1) 0 := ⟨_, r1, size_madeCells _ _, fun j hj => by omega⟩
  have ha := hO.any 0 (Nat.succ_pos n)
  refine ⟨ha.1, ha.2, hg.trans hgr, hsl.gr hgr, (at0 q1).slice, q0, q2, ?_⟩
  rw [alloc_size, alloc_size, alloc_size]
  omega
theorem SliceAt.row {α : Type} {W W' : World} {A : Option Addr} {k : Nat} {enc : α → List Value} {xs : List α} {row : Option Nat} (h : SliceAt W A k enc xs) (hg : W.grownBy W' row) (hr : ∀ r, row = some r → ∃ o : Obj, W.heap[r]? = some o ∧ o.isCells = false) : SliceAt W' A k enc xs := by
  rcases h with h | ⟨b, off, hA, hc⟩
  · exact .inl h
  · refine .inr ⟨b, off, hA, fun i x hx j u hu => ?_⟩
    have h1 := hc i x hx j u hu
    have hlt := block_lt_of_cell h1
    have hne : some b ≠ row := fun e => by
      obtain ⟨o, ho, hco⟩ := hr b e.symm
      unfold World.cell? at h1
      simp only [ho] at h1
      cases o <;> first | (simp at h1; done) | (cases hco; done) | (simp [Obj.isCells] at hco; done)
    exact (World.cell?_of_block (hg.block b hlt hne)).trans h1
theorem SliceAt.other {α : Type} {W : World} {b off Bs k : Nat} {enc : α → List Value} {xs : List α} (h : SliceAt W (some ⟨b, off, none⟩) k enc xs) (hne : b ≠ Bs) (u : Value) : SliceAt (W.setCell ⟨Bs, 0, none⟩ u) (some ⟨b, off, none⟩) k enc xs := by
  rcases h with h | ⟨b', off', hA, hc⟩
  · exact .inl h
  · cases hA
    exact .inr ⟨b, off, rfl, fun i x hx j v hv => (World.cell?_of_block (heap_setCell_other W ⟨Bs, 0, none⟩ b u (by show b ≠ Bs; exact hne))).trans (hc i x hx j v hv)⟩
/-- the places behind these parts of a pattern -/
def bsOf (ws : List ByteArray) (pre : List ByteArray) : List Bool := (List.range (ws.length + 1)).map (fun j => mtL pre (ws.take j))
theorem bsOf_len (ws pre : List ByteArray) : (bsOf ws pre).length = ws.length + 1 := by simp [bsOf]
theorem bsOf_nil (ws : List ByteArray) : (List.range (ws.length + 1)).map (fun j => j == 0) = bsOf ws [] := by
  refine List.map_congr_left (fun j hj => ?_)
  rw [List.mem_range] at hj
  show (j == 0) = (ws.take j).isEmpty
  cases j with
  | zero => rfl
  | succ j =>
    cases ws with
    | nil => simp at hj
    | cons w ws => rfl
theorem bsOf_step (ws pre : List ByteArray) (x : ByteArray) : (List.range (ws.length + 1)).map (oA (fun j => (bsOf ws pre)[j]?.getD false) x ws) = bsOf ws (pre ++ [x]) := by
  refine List.map_congr_left (fun j hj => ?_)
  rw [List.mem_range] at hj
  refine oA_right pre x ws _ (fun i hi => ?_) j (by omega)
  unfold bsOf
  rw [List.getElem?_map, List.getElem?_range (by omega)]
  rfl
theorem bsOf_last (ws pre : List ByteArray) : (bsOf ws pre)[ws.length]? = some (mtL pre ws) := by
  unfold bsOf
  rw [List.getElem?_map, List.getElem?_range (by omega), Option.map_some, List.take_length]
theorem KeepsFrom.of_gr {B : Nat} {W W' : World} (h : Gr W W') : KeepsFrom B W W' := ⟨h.size, fun k o _ hk _ => (h.block (Array.getElem?_eq_some_iff.1 hk).1).trans hk⟩
theorem SpAt.gr {W W' : World} {Bp Bs Bv : Nat} {r : List UInt8} (h : SpAt W Bp Bs Bv r) (hg : Gr W W') : SpAt W' Bp Bs Bv r := h.keep (fun k o hk h2 _ => (hg.block hk).trans h2)
theorem SpAt.other {W : World} {Bp Bs Bv b : Nat} {r : List UInt8} (h : SpAt W Bp Bs Bv r) (h1 : Bp ≠ b ∧ Bs ≠ b ∧ Bv ≠ b ∧ b ≠ 0) (u : Value) : SpAt (W.setCell ⟨b, 0, none⟩ u) Bp Bs Bv r := by
  have e : ∀ k, k ≠ b → (W.setCell ⟨b, 0, none⟩ u).heap[k]? = W.heap[k]? := fun k hk => heap_setCell_other W ⟨b, 0, none⟩ k u (by show k ≠ b; exact hk)
  obtain ⟨m, hm⟩ := h.m
  exact ⟨(e _ h1.1).trans h.p, (e _ h1.2.1).trans h.s, (e _ h1.2.2.1).trans h.v, m, (World.cell?_of_block (a := ⟨0, 0, none⟩) (e 0 (Ne.symm h1.2.2.2))).trans hm⟩
theorem tp_match (p k : List UInt8) (hp : p.length ≤ 4000) (hk : k.length ≤ 4000) (w : World) (hm : ∃ m, w.cell? ⟨0, 0, none⟩ = some (.int .i64 m)) (hpe : p ≠ []) : Calls Tryd.prog 8 #[.string (B p), .string (B k)] w fun r w' => r = .returned (.bool (mtL ((wordsL p).map B) ((wordsL k).map B))) ∧ Gr w w' := by
  have cW1 := fun w1 h => Lib.hid (tp_wordsW k w1 h)
  have cW2 := fun w1 h => Lib.hid (tp_wordsW p w1 h)
  have cC := fun base v w1 (h : WdAt base w1 v k) hb hg => Lib.hid (tp_collectW k hk base v w w1 h hb hg)
  have hlw : (wordsL k).length ≤ 4001 := by
    unfold wordsL
    split
    · simp
    · have h1 := split_len k
      have h2 : k.count 46 ≤ k.length := List.count_le_length
      omega
  have hmk : ∀ w1, (Instr.makeSlice 39 (.int .i64 (((wordsL k).length : Int) + 1)) (.int .i64 (((wordsL k).length : Int) + 1))).run Tryd.prog w1 = .ok (.slice (some ⟨w1.heap.size, 0, none⟩) ((wordsL k).length + 1) ((wordsL k).length + 1)) (w1.alloc (.cells (madeCells #[.bool false] ((wordsL k).length + 1)) 4)) := fun w1 => by
    have h := run_make_row' (P := Tryd.prog) 39 4 (.bool false) 1 Tryd.underlying39 tp_info_bool rfl .i64 .i64 ((wordsL k).length + 1) (by omega) (by omega) w1
    rw [Int.natCast_add] at h
    exact h
  have hw : IntKind.i64.wrap (((wordsL k).length : Int) + 1) = ((wordsL k).length : Int) + 1 := by rw [IntKind.wrap_i64]; omega
  refine (callsIn_wide (n := 8)).1 ?_
  refine callsIn_of_wp_marks Tryd.func8 rfl trivial ?_ rfl
  simp only [Tryd.ntmps8, List.size_toArray, List.length_cons, List.length_nil, Nat.reduceAdd, Nat.reduceSub, Array.replicate_succ, Array.replicate_zero, List.push_toArray, List.append_toArray, List.nil_append, List.cons_append]
  generalize hn : (wordsL k).length = n at *
  gi_wp2_with (first
    | (refine ⟨trivial, ?_⟩; gi_at_call 21; refine (callsIn_wide.2 (cC _ _ _ HK.out.1 (Nat.le_refl _) HK.out.2).out).mono ?_; clear cC; rintro e v2 ⟨AK, cK, rfl, hsl, hg⟩; have HC := Lib.hid (tp_start (n := n) (cK := cK) hsl hg); have HC2 := Lib.hid (And.intro hsl hg); obtain ⟨c0, hc0⟩ := HC.out.1; have hf0 := HC.out.2.1; clear hsl hg)
    | (refine ⟨trivial, ?_⟩; gi_at_call 14; refine (callsIn_wide.2 (cW1 _ hm).out).mono ?_; clear cW1; rintro e v1 ⟨vK, rfl, hK1, hg⟩; have HK := Lib.hid (And.intro hK1 hg); clear hK1 hg)
    | (refine ⟨trivial, ?_⟩; gi_at_call 14; refine (callsIn_wide.2 (cW2 _ (by obtain ⟨m, hm⟩ := hm; exact ⟨m, HC.out.2.2.1.cells hm⟩)).out).mono ?_; clear cW2; rintro e v5 ⟨vP, rfl, hP, hg⟩; obtain ⟨Bp, Bs, Bv, rfl, hne, hbs, hsp⟩ := hP.ne hpe; have H5 := Lib.hid (And.intro hne (And.intro hbs (And.intro hsp hg))); clear hP hne hbs hsp hg))
  have hnw : ((wordsL k).map B).length = n := by rw [List.length_map]; exact hn
  generalize hws : (wordsL k).map B = ws at *
  have HWS := Lib.hid hws
  clear hws
  have hcs : ∀ ga pre x W, SliceAt W (some ⟨ga, 0, none⟩) 1 blCell (bsOf ws pre) → SliceAt W AK 1 strCell ws → Calls Tryd.prog 28 #[.slice (some ⟨ga, 0, none⟩) (n + 1) (n + 1), .string x, .slice AK n cK] W fun r w' => r = .returned (.slice (some ⟨W.heap.size, 0, none⟩) (n + 1) (n + 1)) ∧ SliceAt w' (some ⟨W.heap.size, 0, none⟩) 1 blCell (bsOf ws (pre ++ [x])) ∧ Gr W w' := fun ga pre x W h1 h2 => by
    have h := tp_step (some ⟨ga, 0, none⟩) AK (n + 1) cK (bsOf ws pre) ws (bsOf_len ws pre) (by omega) x W h1 h2
    rw [bsOf_len, bsOf_step, hnw] at h
    exact h
  have hwp : wordsL p = splitW p := if_neg hpe
  have hgv : Gr v2 v5 := Gr.trans ((((Gr.refl v2).alloc _).alloc _).alloc _) H5.out.2.2.2
  have hlp : 0 < v2.heap.size := by
    obtain ⟨m, hm⟩ := hm
    exact Nat.lt_of_lt_of_le (block_lt_of_cell hm) HC2.out.2.size
  have hbB : v2.heap.size + 1 + 1 < Bs ∧ v2.heap.size + 1 + 1 < Bp ∧ v2.heap.size + 1 + 1 < Bv := by
    have h1 := HC.out.2.2.2.2.2.2.2
    have h2 := H5.out.2.1
    omega
  have hsl2 : SliceAt v2 AK 1 strCell ws := HC2.out.1
  have hat5 : SliceAt v5 (some ⟨v2.heap.size + 1, 0, none⟩) 1 blCell (bsOf ws []) := by
    have h := HC.out.2.2.2.2.1.gr H5.out.2.2.2
    rw [← hnw, bsOf_nil] at h
    exact h
  have hb0 : Boxed v5 v2.heap.size 32 (.slice AK n cK) := (H5.out.2.2.2.block (Array.getElem?_eq_some_iff.1 HC.out.2.2.2.2.2.1).1).trans HC.out.2.2.2.2.2.1
  have hb2 : Boxed v5 (v2.heap.size + 1 + 1) 39 (.slice (some ⟨v2.heap.size + 1, 0, none⟩) (n + 1) (n + 1)) := (H5.out.2.2.2.block (Array.getElem?_eq_some_iff.1 HC.out.2.2.2.2.2.2.1).1).trans HC.out.2.2.2.2.2.2.1
  have h5sz : Bs < v5.heap.size ∧ Bp < v5.heap.size ∧ Bv < v5.heap.size := ⟨(Array.getElem?_eq_some_iff.1 H5.out.2.2.1.s).1, (Array.getElem?_eq_some_iff.1 H5.out.2.2.1.p).1, (Array.getElem?_eq_some_iff.1 H5.out.2.2.1.v).1⟩
  refine range_split 8 (by omega) Bp Bs Bv H5.out.1 p hp rfl rfl H5.out.2.2.1
    (fun pre W => (∃ ga, Boxed W (v2.heap.size + 1 + 1) 39 (.slice (some ⟨ga, 0, none⟩) (n + 1) (n + 1)) ∧ SliceAt W (some ⟨ga, 0, none⟩) 1 blCell (bsOf ws pre) ∧ ga ≠ Bs ∧ ga ≠ v2.heap.size + 1 + 1) ∧ Boxed W v2.heap.size 32 (.slice AK n cK) ∧ Gr v2 W ∧ v5.heap.size ≤ W.heap.size)
    ?own ?set ⟨⟨v2.heap.size + 1, hb2, hat5, by omega, by omega⟩, hb0, hgv, Nat.le_refl _⟩
    (fun x a' _ => a' = { tmps := #[.string (B p), .string (B k), undef, undef, .bool false, .pointer (some ⟨v2.heap.size, 0, none⟩), .pointer (some ⟨v2.heap.size + 1 + 1, 0, none⟩), .string x, .string (B k), vK, .slice AK n cK, .slice AK n cK, .int .i64 (n : Nat), .int .i64 ((n : Nat) + 1 : Int), .slice (some ⟨v2.heap.size + 1, 0, none⟩) (n + 1) (n + 1), .slice (some ⟨v2.heap.size + 1, 0, none⟩) (n + 1) (n + 1), .pointer (some ⟨v2.heap.size + 1, 0, none⟩), .string (B p), .func (.func 47) #[] #[.pointer (some ⟨Bp, 0, none⟩), .pointer (some ⟨Bs, 0, none⟩), .pointer (some ⟨Bv, 0, none⟩)], .string x, undef, undef, undef, undef, undef, undef, undef, undef, undef], defers := [] })
    (fun _ _ _ _ _ _ h _ _ => h) ?assign ?body ?done
  case own =>
    rintro pre W W' row ⟨⟨ga, q1, q2, q3, q4⟩, q5, q6, q7⟩ hg hr
    have hr2 : ∀ r, row = some r → ∃ o : Obj, W.heap[r]? = some o ∧ o.isCells = false := fun r e => (hr r e).2
    have hbx : ∀ (b : Nat) (t : TypeId) (v : Value), Boxed W b t v → Boxed W' b t v := fun b t v h => h.kept hg (fun e => by obtain ⟨o, ho, hc⟩ := hr2 b e.symm; rw [show W.heap[b]? = _ from h] at ho; cases ho; cases hc)
    refine ⟨⟨ga, hbx _ _ _ q1, q2.row hg hr2, q3, q4⟩, hbx _ _ _ q5, ?_, Nat.le_trans q7 hg.size⟩
    exact ⟨hg.os.trans (Below.os q6), hg.tape.trans (Below.tape q6), hg.output.trans (Below.output q6), Nat.le_trans (Below.size q6) hg.size, fun j hj => (hg.block j (Nat.lt_of_lt_of_le hj (Below.size q6)) (fun e => by have h1 := (hr j e.symm).1; have h2 := hgv.size; omega)).trans (Below.block q6 j hj)⟩
  case set =>
    rintro pre W u ⟨⟨ga, q1, q2, q3, q4⟩, q5, q6, q7⟩
    exact ⟨⟨ga, q1.other (by omega) u, q2.other q3 u, q3, q4⟩, q5.other (by omega) u, ((Ch.refl Bs W).setCell 0 u).gr q6 (by omega), by rw [setCell_size]; exact q7⟩
  case assign =>
    intro l pre x r W K hi hb hK
    gi_wp2
    exact hK _ _ (KeepsFrom.refl _ _) hi hb rfl
  case body =>
    rintro l pre x a' r W hl9 ⟨⟨ga, q1, q2, q3, q4⟩, q5, q6, q7⟩ hb rfl hlt
    have d1 := q1.cell
    have d2 := q1.frozen
    have d3 := q5.cell
    have HQ := Lib.hid (And.intro q1 (And.intro q5 (And.intro q6 (And.intro q7 hb))))
    have cS := Lib.hid (hcs ga pre x W q2 (hsl2.gr q6))
    gi_wp2_with (refine ⟨trivial, ?_⟩; gi_at_call 28; refine (CallsIn.inRound l (callsIn_wide.2 cS.out)).mono ?_; rintro e w6 ⟨rfl, hsl6, hg6⟩; have HG := Lib.hid (And.intro hsl6 hg6); have d4 := (Boxed.cell (show Boxed w6 _ _ _ from (hg6.block (Array.getElem?_eq_some_iff.1 HQ.out.1).1).trans HQ.out.1)); have d5 := (Boxed.frozen (show Boxed w6 _ _ _ from (hg6.block (Array.getElem?_eq_some_iff.1 HQ.out.1).1).trans HQ.out.1)); clear hsl6 hg6)
    have x1 : Boxed w6 (v2.heap.size + 1 + 1) 39 (.slice (some ⟨ga, 0, none⟩) (n + 1) (n + 1)) := (HG.out.2.block (Array.getElem?_eq_some_iff.1 HQ.out.1).1).trans HQ.out.1
    have x2 : Boxed w6 v2.heap.size 32 (.slice AK n cK) := (HG.out.2.block (Array.getElem?_eq_some_iff.1 HQ.out.2.1).1).trans HQ.out.2.1
    have hsz6 := HG.out.2.size
    exact ⟨(KeepsFrom.of_gr HG.out.2).trans ((KeepsOthers.setCell _ _ _).from _), ⟨⟨W.heap.size, x1.set _, HG.out.1.other (by omega) _, by omega, by omega⟩, x2.other (by omega) _, ((Ch.refl (v2.heap.size + 1 + 1) w6).setCell 0 _).gr (HQ.out.2.2.1.trans HG.out.2) (by omega), by rw [setCell_size]; omega⟩, (HQ.out.2.2.2.2.gr HG.out.2).other (by omega) _⟩
  case done =>
    rintro D W hD ⟨⟨ga, q1, q2, q3, q4⟩, q5, q6, q7⟩ hK
    have d1 := q1.cell
    have d3 := q5.cell
    have d6 : W.cell? ⟨ga, n, none⟩ = some (.bool (mtL ((splitW p).map B) ws)) := by
      rcases q2 with h0 | ⟨b, off, hA, hc⟩
      · have h1 := bsOf_len ws ((splitW p).map B)
        rw [h0] at h1
        simp at h1
      · cases hA
        have h1 := hc n _ (by rw [← hnw]; exact bsOf_last ws _) 0 _ rfl
        simpa using h1
    have HF : Hid (Gr w (W.putObj D (.deferred none))) := Below.trans (HC2.out.2.trans q6) (belowK_b (w := w) (Nat.le_refl _) W D _ _ (by have h1 := HC2.out.2.size; have h2 := hgv.size; omega) hK rfl rfl)
    have hn1 : ((n : Nat) : Int) < (n : Int) + 1 := by omega
    gi_wp2
    refine ⟨by simp, .inl ⟨_, _, rfl, run_takeDeferred hK, ?_⟩⟩
    exact ⟨_, results_tmp rfl _ _ _, by rw [hwp, HWS.out]; rfl, HF.out⟩
end Go.Proofs.YtdpildbdbbfamaaDoor
