/- The law RecordBack, walked. -/
import Derived.Test.YtncbbaieoehbjaaRecMath
import Derived.Test.YtncbbaieoehbjaaRecTwS
import Derived.Test.YtncbbaieoehbjaaRecCtR
import Derived.Test.YtncbbaieoehbjaaRecordOpen
import Derived.Deep.CutBlock
import Derived.Deep.DeepCutAuto
import Derived.BigQuiet
namespace Go.Proofs.Ytncbbaieoehbjaa
open Go.RowKit
set_option linter.unusedVariables false
set_option linter.unusedSimpArgs false
set_option maxRecDepth 100000
set_option maxHeartbeats 40000000
theorem lt_of_row {w : World} {k : Nat} {o : Obj} (h : w.heap[k]? = some o) : k < w.heap.size := by
  rcases Nat.lt_or_ge k w.heap.size with h2 | h2
  · exact h2
  · rw [Array.getElem?_eq_none h2] at h; cases h
theorem row_cell {w : World} {g : Nat} {t : TypeId} {cs : Array Value} (h : w.heap[g]? = some (.cells cs t (0, 0))) (i : Nat) (v : Value) (hv : cs[i]? = some v) : w.cell? ⟨g, i, none⟩ = some v := by
  rw [cell_of_row _ _ i _ _ _ h]; exact hv
theorem me_bounds {s f0 f4 : ByteArray} {f1 f2 f3 : Nat} {nm : ByteArray} {id : Nat} {e : Int} (h : rdEndme nm id s = ((f0, f1, f2, f3, f4), e)) : f2 < 4294967296 ∧ U64 f3 ∧ f4.size ≤ s.size := by
  unfold rdEndme at h
  obtain ⟨sv, ev, hv⟩ : ∃ sv ev, rdVer s 0 = (sv, ev) := ⟨_, _, rfl⟩
  have hz := rdVer_size s 0
  rw [hv] at h hz
  simp only at h hz
  unfold rdmeB at h
  have b1 := rdNum_lt sv ev 4
  have c1 := rdNum_size sv ev 4
  obtain ⟨n1, s1, e1, q1⟩ : ∃ n s e, rdNum sv ev 4 = (n, s, e) := ⟨_, _, _, rfl⟩
  rw [q1] at h b1 c1
  simp only at h b1 c1
  have b2 := rdNum_lt s1 e1 8
  have c2 := rdNum_size s1 e1 8
  obtain ⟨n2, s2, e2, q2⟩ : ∃ n s e, rdNum s1 e1 8 = (n, s, e) := ⟨_, _, _, rfl⟩
  rw [q2] at h b2 c2
  simp only at h b2 c2
  have b3 := rdText_size s2 e2 32768
  obtain ⟨n3, s3, e3, q3⟩ : ∃ n s e, rdText s2 e2 32768 = (n, s, e) := ⟨_, _, _, rfl⟩
  rw [q3] at h b3
  simp only at h b3
  split at h
  · simp only [Prod.mk.injEq] at h
    obtain ⟨⟨rfl, rfl, rfl, rfl, rfl⟩, _⟩ := h
    exact ⟨by omega, by unfold U64; omega, by omega⟩
  · simp only [Prod.mk.injEq] at h
    obtain ⟨⟨rfl, rfl, rfl, rfl, rfl⟩, _⟩ := h
    exact ⟨by omega, by unfold U64; omega, Nat.zero_le _⟩
theorem max3 (a b c : Int) (w : World) : (Builtin.max_ #[3, 3, 3] 3 #[.int .i64 a, .int .i64 b, .int .i64 c]).run Try.prog w = .ok (.int .i64 (if c > (if b > a then b else a) then c else (if b > a then b else a))) w := by kernel_rfl
theorem walk_RecordBack_ (nm : ByteArray) (most ttl tries : Nat) (dead : ByteArray) (h1 : most < 4294967296) (h2 : U64 ttl) (h3 : tries < 4294967296) (h4 : dead.size ≤ maxLen)
    (mq : ByteArray) (id mtr mttl : Nat) (body : ByteArray) (k1 : U64 id) (k2 : mtr < 4294967296) (k3 : U64 mttl) (k4 : body.size ≤ maxLen) (n : Nat) (hn : n < 65536) (s : ByteArray) (hs : s.size ≤ maxLen) (w : World) :
    Calls Try.prog 4 #[.agg #[.string nm, .int .u32 (most : Nat), .int .u64 (ttl : Nat), .int .u32 (tries : Nat), .string dead], .agg #[.string mq, .int .u64 (id : Nat), .int .u32 (mtr : Nat), .int .u64 (mttl : Nat), .string body], .int .u16 (n : Nat), .string s] w fun e w' => e = .returned (.bool true) ∧ Gr w w' := by
  have hm1 := h4
  have hm2 := k4
  have hm3 := hs
  unfold maxLen at hm1 hm2 hm3
  have hw0 := heap_alloc_last w (.cells #[.string nm, .int .u32 (most : Nat), .int .u64 (ttl : Nat), .int .u32 (tries : Nat), .string dead] 25)
  have hw1 := heap_alloc_last (w.alloc (.cells #[.string nm, .int .u32 (most : Nat), .int .u64 (ttl : Nat), .int .u32 (tries : Nat), .string dead] 25)) (.cells #[.string mq, .int .u64 (id : Nat), .int .u32 (mtr : Nat), .int .u64 (mttl : Nat), .string body] 27)
  have hw2 := ((Gr.refl (w.alloc (.cells #[.string nm, .int .u32 (most : Nat), .int .u64 (ttl : Nat), .int .u32 (tries : Nat), .string dead] 25))).alloc (.cells #[.string mq, .int .u64 (id : Nat), .int .u32 (mtr : Nat), .int .u64 (mttl : Nat), .string body] 27) |>.block (k := w.heap.size) (by rw [alloc_size]; omega)).trans hw0
  rw [alloc_size] at hw1
  have HW : Hid (Gr w ((w.alloc (.cells #[.string nm, .int .u32 (most : Nat), .int .u64 (ttl : Nat), .int .u32 (tries : Nat), .string dead] 25)).alloc (.cells #[.string mq, .int .u64 (id : Nat), .int .u32 (mtr : Nat), .int .u64 (mttl : Nat), .string body] 27))) := ((Gr.refl w).alloc _).alloc _
  have HB := Lib.hid hw1
  have HQ0 := Lib.hid hw2
  clear hw0 hw1 hw2
  obtain ⟨M, hM⟩ : ∃ M : Int, M = (if (s.size : Int) > (if (body.size : Int) > (dead.size : Int) then (body.size : Int) else (dead.size : Int)) then (s.size : Int) else (if (body.size : Int) > (dead.size : Int) then (body.size : Int) else (dead.size : Int))) := ⟨_, rfl⟩
  have hmx := fun w1 => max3 (dead.size : Int) (body.size : Int) (s.size : Int) w1
  rw [← hM] at hmx
  have hbig : ((3000 : Int) < M) ∨ (dead.size ≤ 3000 ∧ body.size ≤ 3000 ∧ s.size ≤ 3000 ∧ ¬ (3000 : Int) < M) := by subst hM; split <;> split <;> omega
  clear hM
  rcases hbig with hbig | ⟨hd, hb, hs3, hbig⟩
  · go_enter Try.func4, Try.ntmps4
    go_wp2_with (go_at_call 9; refine (law19_awake _).mono ?_; rintro r v1 ⟨rfl, hg⟩; have HV0 : Hid (Gr w v1) := HW.out.trans hg; have HX := Lib.hid (And.intro ((hg.block (k := w.heap.size) (by simp only [alloc_size] <;> omega)).trans HQ0.out) ((hg.block (k := w.heap.size + 1) (by simp only [alloc_size] <;> omega)).trans HB.out)); clear hg; have x4 : v1.cell? ⟨w.heap.size, 4, none⟩ = some (.string dead) := (by rw [cell_of_row _ _ 4 _ _ _ HX.out.1] <;> rfl); have x9 : v1.cell? ⟨w.heap.size + 1, 4, none⟩ = some (.string body) := (by rw [cell_of_row _ _ 4 _ _ _ HX.out.2] <;> rfl))
    go_ret
    exact ⟨rfl, HV0.out⟩
  · go_enter Try.func4, Try.ntmps4
    go_wp2_with (go_at_call 9; refine (law19_awake _).mono ?_; rintro r v1 ⟨rfl, hg⟩; have HV0 : Hid (Gr w v1) := HW.out.trans hg; have HX := Lib.hid (And.intro ((hg.block (k := w.heap.size) (by simp only [alloc_size] <;> omega)).trans HQ0.out) ((hg.block (k := w.heap.size + 1) (by simp only [alloc_size] <;> omega)).trans HB.out)); clear hg; have x4 : v1.cell? ⟨w.heap.size, 4, none⟩ = some (.string dead) := (by rw [cell_of_row _ _ 4 _ _ _ HX.out.1] <;> rfl); have x9 : v1.cell? ⟨w.heap.size + 1, 4, none⟩ = some (.string body) := (by rw [cell_of_row _ _ 4 _ _ _ HX.out.2] <;> rfl))
    clear x4 x9 hmx hbig
    have x0 : v1.cell? ⟨w.heap.size, 0, none⟩ = some (.string nm) := (by rw [cell_of_row _ _ 0 _ _ _ HX.out.1] <;> rfl)
    have x1 : v1.cell? ⟨w.heap.size, 1, none⟩ = some (.int .u32 (most : Nat)) := (by rw [cell_of_row _ _ 1 _ _ _ HX.out.1] <;> rfl)
    have x2 : v1.cell? ⟨w.heap.size, 2, none⟩ = some (.int .u64 (ttl : Nat)) := (by rw [cell_of_row _ _ 2 _ _ _ HX.out.1] <;> rfl)
    have x3 : v1.cell? ⟨w.heap.size, 3, none⟩ = some (.int .u32 (tries : Nat)) := (by rw [cell_of_row _ _ 3 _ _ _ HX.out.1] <;> rfl)
    have x4 : v1.cell? ⟨w.heap.size, 4, none⟩ = some (.string dead) := (by rw [cell_of_row _ _ 4 _ _ _ HX.out.1] <;> rfl)
    have x5 : v1.cell? ⟨w.heap.size + 1, 0, none⟩ = some (.string mq) := (by rw [cell_of_row _ _ 0 _ _ _ HX.out.2] <;> rfl)
    have x6 : v1.cell? ⟨w.heap.size + 1, 1, none⟩ = some (.int .u64 (id : Nat)) := (by rw [cell_of_row _ _ 1 _ _ _ HX.out.2] <;> rfl)
    have x7 : v1.cell? ⟨w.heap.size + 1, 2, none⟩ = some (.int .u32 (mtr : Nat)) := (by rw [cell_of_row _ _ 2 _ _ _ HX.out.2] <;> rfl)
    have x8 : v1.cell? ⟨w.heap.size + 1, 3, none⟩ = some (.int .u64 (mttl : Nat)) := (by rw [cell_of_row _ _ 3 _ _ _ HX.out.2] <;> rfl)
    have x9 : v1.cell? ⟨w.heap.size + 1, 4, none⟩ = some (.string body) := (by rw [cell_of_row _ _ 4 _ _ _ HX.out.2] <;> rfl)
    have HLT : Hid (w.heap.size + 1 < v1.heap.size) := block_lt_of_cell x9
    clear HX HW HB HQ0
    generalize hg1 : w.heap.size + 1 = g1 at *
    generalize hg0 : w.heap.size = g0 at *
    clear hg1 hg0
    generalize v1 = V at *
    have X0 : V.cell? ⟨g0, 0, none⟩ = some (.string nm) ∧ V.cell? ⟨g0, 1, none⟩ = some (.int .u32 (most : Nat)) ∧ V.cell? ⟨g0, 2, none⟩ = some (.int .u64 (ttl : Nat)) ∧ V.cell? ⟨g0, 3, none⟩ = some (.int .u32 (tries : Nat)) ∧ V.cell? ⟨g0, 4, none⟩ = some (.string dead) ∧ V.cell? ⟨g1, 0, none⟩ = some (.string mq) ∧ V.cell? ⟨g1, 1, none⟩ = some (.int .u64 (id : Nat)) ∧ V.cell? ⟨g1, 2, none⟩ = some (.int .u32 (mtr : Nat)) ∧ V.cell? ⟨g1, 3, none⟩ = some (.int .u64 (mttl : Nat)) ∧ V.cell? ⟨g1, 4, none⟩ = some (.string body) := ⟨x0, x1, x2, x3, x4, x5, x6, x7, x8, x9⟩
    have HRB : ∀ w1 w2 : World, (w1.cell? ⟨g0, 0, none⟩ = some (.string nm) ∧ w1.cell? ⟨g0, 1, none⟩ = some (.int .u32 (most : Nat)) ∧ w1.cell? ⟨g0, 2, none⟩ = some (.int .u64 (ttl : Nat)) ∧ w1.cell? ⟨g0, 3, none⟩ = some (.int .u32 (tries : Nat)) ∧ w1.cell? ⟨g0, 4, none⟩ = some (.string dead) ∧ w1.cell? ⟨g1, 0, none⟩ = some (.string mq) ∧ w1.cell? ⟨g1, 1, none⟩ = some (.int .u64 (id : Nat)) ∧ w1.cell? ⟨g1, 2, none⟩ = some (.int .u32 (mtr : Nat)) ∧ w1.cell? ⟨g1, 3, none⟩ = some (.int .u64 (mttl : Nat)) ∧ w1.cell? ⟨g1, 4, none⟩ = some (.string body)) → Gr w1 w2 → (w2.cell? ⟨g0, 0, none⟩ = some (.string nm) ∧ w2.cell? ⟨g0, 1, none⟩ = some (.int .u32 (most : Nat)) ∧ w2.cell? ⟨g0, 2, none⟩ = some (.int .u64 (ttl : Nat)) ∧ w2.cell? ⟨g0, 3, none⟩ = some (.int .u32 (tries : Nat)) ∧ w2.cell? ⟨g0, 4, none⟩ = some (.string dead) ∧ w2.cell? ⟨g1, 0, none⟩ = some (.string mq) ∧ w2.cell? ⟨g1, 1, none⟩ = some (.int .u64 (id : Nat)) ∧ w2.cell? ⟨g1, 2, none⟩ = some (.int .u32 (mtr : Nat)) ∧ w2.cell? ⟨g1, 3, none⟩ = some (.int .u64 (mttl : Nat)) ∧ w2.cell? ⟨g1, 4, none⟩ = some (.string body)) := fun w1 w2 h hg => ⟨hg.cells h.1, hg.cells h.2.1, hg.cells h.2.2.1, hg.cells h.2.2.2.1, hg.cells h.2.2.2.2.1, hg.cells h.2.2.2.2.2.1, hg.cells h.2.2.2.2.2.2.1, hg.cells h.2.2.2.2.2.2.2.1, hg.cells h.2.2.2.2.2.2.2.2.1, hg.cells h.2.2.2.2.2.2.2.2.2⟩
    have HRS : ∀ (w1 : World) (G i : Nat) (u : Value), (w1.cell? ⟨g0, 0, none⟩ = some (.string nm) ∧ w1.cell? ⟨g0, 1, none⟩ = some (.int .u32 (most : Nat)) ∧ w1.cell? ⟨g0, 2, none⟩ = some (.int .u64 (ttl : Nat)) ∧ w1.cell? ⟨g0, 3, none⟩ = some (.int .u32 (tries : Nat)) ∧ w1.cell? ⟨g0, 4, none⟩ = some (.string dead) ∧ w1.cell? ⟨g1, 0, none⟩ = some (.string mq) ∧ w1.cell? ⟨g1, 1, none⟩ = some (.int .u64 (id : Nat)) ∧ w1.cell? ⟨g1, 2, none⟩ = some (.int .u32 (mtr : Nat)) ∧ w1.cell? ⟨g1, 3, none⟩ = some (.int .u64 (mttl : Nat)) ∧ w1.cell? ⟨g1, 4, none⟩ = some (.string body)) → V.heap.size ≤ G → ((w1.setCell ⟨G, i, none⟩ u).cell? ⟨g0, 0, none⟩ = some (.string nm) ∧ (w1.setCell ⟨G, i, none⟩ u).cell? ⟨g0, 1, none⟩ = some (.int .u32 (most : Nat)) ∧ (w1.setCell ⟨G, i, none⟩ u).cell? ⟨g0, 2, none⟩ = some (.int .u64 (ttl : Nat)) ∧ (w1.setCell ⟨G, i, none⟩ u).cell? ⟨g0, 3, none⟩ = some (.int .u32 (tries : Nat)) ∧ (w1.setCell ⟨G, i, none⟩ u).cell? ⟨g0, 4, none⟩ = some (.string dead) ∧ (w1.setCell ⟨G, i, none⟩ u).cell? ⟨g1, 0, none⟩ = some (.string mq) ∧ (w1.setCell ⟨G, i, none⟩ u).cell? ⟨g1, 1, none⟩ = some (.int .u64 (id : Nat)) ∧ (w1.setCell ⟨G, i, none⟩ u).cell? ⟨g1, 2, none⟩ = some (.int .u32 (mtr : Nat)) ∧ (w1.setCell ⟨G, i, none⟩ u).cell? ⟨g1, 3, none⟩ = some (.int .u64 (mttl : Nat)) ∧ (w1.setCell ⟨G, i, none⟩ u).cell? ⟨g1, 4, none⟩ = some (.string body)) := fun w1 G i u h hG => ⟨cell_setCell_ne h.1 (by have := HLT.out; have := block_lt_of_cell X0.1; show g0 ≠ G; simp only at this; omega), cell_setCell_ne h.2.1 (by have := HLT.out; have := block_lt_of_cell X0.1; show g0 ≠ G; simp only at this; omega), cell_setCell_ne h.2.2.1 (by have := HLT.out; have := block_lt_of_cell X0.1; show g0 ≠ G; simp only at this; omega), cell_setCell_ne h.2.2.2.1 (by have := HLT.out; have := block_lt_of_cell X0.1; show g0 ≠ G; simp only at this; omega), cell_setCell_ne h.2.2.2.2.1 (by have := HLT.out; have := block_lt_of_cell X0.1; show g0 ≠ G; simp only at this; omega), cell_setCell_ne h.2.2.2.2.2.1 (by have := HLT.out; have := block_lt_of_cell X0.2.2.2.2.2.1; show g1 ≠ G; simp only at this; omega), cell_setCell_ne h.2.2.2.2.2.2.1 (by have := HLT.out; have := block_lt_of_cell X0.2.2.2.2.2.1; show g1 ≠ G; simp only at this; omega), cell_setCell_ne h.2.2.2.2.2.2.2.1 (by have := HLT.out; have := block_lt_of_cell X0.2.2.2.2.2.1; show g1 ≠ G; simp only at this; omega), cell_setCell_ne h.2.2.2.2.2.2.2.2.1 (by have := HLT.out; have := block_lt_of_cell X0.2.2.2.2.2.1; show g1 ≠ G; simp only at this; omega), cell_setCell_ne h.2.2.2.2.2.2.2.2.2 (by have := HLT.out; have := block_lt_of_cell X0.2.2.2.2.2.1; show g1 ≠ G; simp only at this; omega)⟩
    have HRR : ∀ (w1 : World) (G : Nat) (cs : Array Value), (w1.cell? ⟨g0, 0, none⟩ = some (.string nm) ∧ w1.cell? ⟨g0, 1, none⟩ = some (.int .u32 (most : Nat)) ∧ w1.cell? ⟨g0, 2, none⟩ = some (.int .u64 (ttl : Nat)) ∧ w1.cell? ⟨g0, 3, none⟩ = some (.int .u32 (tries : Nat)) ∧ w1.cell? ⟨g0, 4, none⟩ = some (.string dead) ∧ w1.cell? ⟨g1, 0, none⟩ = some (.string mq) ∧ w1.cell? ⟨g1, 1, none⟩ = some (.int .u64 (id : Nat)) ∧ w1.cell? ⟨g1, 2, none⟩ = some (.int .u32 (mtr : Nat)) ∧ w1.cell? ⟨g1, 3, none⟩ = some (.int .u64 (mttl : Nat)) ∧ w1.cell? ⟨g1, 4, none⟩ = some (.string body)) → V.heap.size ≤ G → ((w1.setRow G cs).cell? ⟨g0, 0, none⟩ = some (.string nm) ∧ (w1.setRow G cs).cell? ⟨g0, 1, none⟩ = some (.int .u32 (most : Nat)) ∧ (w1.setRow G cs).cell? ⟨g0, 2, none⟩ = some (.int .u64 (ttl : Nat)) ∧ (w1.setRow G cs).cell? ⟨g0, 3, none⟩ = some (.int .u32 (tries : Nat)) ∧ (w1.setRow G cs).cell? ⟨g0, 4, none⟩ = some (.string dead) ∧ (w1.setRow G cs).cell? ⟨g1, 0, none⟩ = some (.string mq) ∧ (w1.setRow G cs).cell? ⟨g1, 1, none⟩ = some (.int .u64 (id : Nat)) ∧ (w1.setRow G cs).cell? ⟨g1, 2, none⟩ = some (.int .u32 (mtr : Nat)) ∧ (w1.setRow G cs).cell? ⟨g1, 3, none⟩ = some (.int .u64 (mttl : Nat)) ∧ (w1.setRow G cs).cell? ⟨g1, 4, none⟩ = some (.string body)) := fun w1 G cs h hG => ⟨(World.cell?_of_block (a := ⟨g0, 0, none⟩) (setRow_other _ _ _ _ (show g0 ≠ G by have := HLT.out; have := block_lt_of_cell X0.1; simp only at this; omega))).trans h.1, (World.cell?_of_block (a := ⟨g0, 1, none⟩) (setRow_other _ _ _ _ (show g0 ≠ G by have := HLT.out; have := block_lt_of_cell X0.1; simp only at this; omega))).trans h.2.1, (World.cell?_of_block (a := ⟨g0, 2, none⟩) (setRow_other _ _ _ _ (show g0 ≠ G by have := HLT.out; have := block_lt_of_cell X0.1; simp only at this; omega))).trans h.2.2.1, (World.cell?_of_block (a := ⟨g0, 3, none⟩) (setRow_other _ _ _ _ (show g0 ≠ G by have := HLT.out; have := block_lt_of_cell X0.1; simp only at this; omega))).trans h.2.2.2.1, (World.cell?_of_block (a := ⟨g0, 4, none⟩) (setRow_other _ _ _ _ (show g0 ≠ G by have := HLT.out; have := block_lt_of_cell X0.1; simp only at this; omega))).trans h.2.2.2.2.1, (World.cell?_of_block (a := ⟨g1, 0, none⟩) (setRow_other _ _ _ _ (show g1 ≠ G by have := HLT.out; have := block_lt_of_cell X0.2.2.2.2.2.1; simp only at this; omega))).trans h.2.2.2.2.2.1, (World.cell?_of_block (a := ⟨g1, 1, none⟩) (setRow_other _ _ _ _ (show g1 ≠ G by have := HLT.out; have := block_lt_of_cell X0.2.2.2.2.2.1; simp only at this; omega))).trans h.2.2.2.2.2.2.1, (World.cell?_of_block (a := ⟨g1, 2, none⟩) (setRow_other _ _ _ _ (show g1 ≠ G by have := HLT.out; have := block_lt_of_cell X0.2.2.2.2.2.1; simp only at this; omega))).trans h.2.2.2.2.2.2.2.1, (World.cell?_of_block (a := ⟨g1, 3, none⟩) (setRow_other _ _ _ _ (show g1 ≠ G by have := HLT.out; have := block_lt_of_cell X0.2.2.2.2.2.1; simp only at this; omega))).trans h.2.2.2.2.2.2.2.2.1, (World.cell?_of_block (a := ⟨g1, 4, none⟩) (setRow_other _ _ _ _ (show g1 ≠ G by have := HLT.out; have := block_lt_of_cell X0.2.2.2.2.2.1; simp only at this; omega))).trans h.2.2.2.2.2.2.2.2.2⟩
    have HRRH := Lib.hid HRR
    clear HRR
    have HRV : ∀ (w1 : World) (G : Nat) (a b c d e : Value), (w1.cell? ⟨g0, 0, none⟩ = some (.string nm) ∧ w1.cell? ⟨g0, 1, none⟩ = some (.int .u32 (most : Nat)) ∧ w1.cell? ⟨g0, 2, none⟩ = some (.int .u64 (ttl : Nat)) ∧ w1.cell? ⟨g0, 3, none⟩ = some (.int .u32 (tries : Nat)) ∧ w1.cell? ⟨g0, 4, none⟩ = some (.string dead) ∧ w1.cell? ⟨g1, 0, none⟩ = some (.string mq) ∧ w1.cell? ⟨g1, 1, none⟩ = some (.int .u64 (id : Nat)) ∧ w1.cell? ⟨g1, 2, none⟩ = some (.int .u32 (mtr : Nat)) ∧ w1.cell? ⟨g1, 3, none⟩ = some (.int .u64 (mttl : Nat)) ∧ w1.cell? ⟨g1, 4, none⟩ = some (.string body)) → V.heap.size ≤ G → ((((((w1.setCell ⟨G, 0, none⟩ a).setCell ⟨G, 1, none⟩ b).setCell ⟨G, 2, none⟩ c).setCell ⟨G, 3, none⟩ d).setCell ⟨G, 4, none⟩ e).cell? ⟨g0, 0, none⟩ = some (.string nm) ∧ (((((w1.setCell ⟨G, 0, none⟩ a).setCell ⟨G, 1, none⟩ b).setCell ⟨G, 2, none⟩ c).setCell ⟨G, 3, none⟩ d).setCell ⟨G, 4, none⟩ e).cell? ⟨g0, 1, none⟩ = some (.int .u32 (most : Nat)) ∧ (((((w1.setCell ⟨G, 0, none⟩ a).setCell ⟨G, 1, none⟩ b).setCell ⟨G, 2, none⟩ c).setCell ⟨G, 3, none⟩ d).setCell ⟨G, 4, none⟩ e).cell? ⟨g0, 2, none⟩ = some (.int .u64 (ttl : Nat)) ∧ (((((w1.setCell ⟨G, 0, none⟩ a).setCell ⟨G, 1, none⟩ b).setCell ⟨G, 2, none⟩ c).setCell ⟨G, 3, none⟩ d).setCell ⟨G, 4, none⟩ e).cell? ⟨g0, 3, none⟩ = some (.int .u32 (tries : Nat)) ∧ (((((w1.setCell ⟨G, 0, none⟩ a).setCell ⟨G, 1, none⟩ b).setCell ⟨G, 2, none⟩ c).setCell ⟨G, 3, none⟩ d).setCell ⟨G, 4, none⟩ e).cell? ⟨g0, 4, none⟩ = some (.string dead) ∧ (((((w1.setCell ⟨G, 0, none⟩ a).setCell ⟨G, 1, none⟩ b).setCell ⟨G, 2, none⟩ c).setCell ⟨G, 3, none⟩ d).setCell ⟨G, 4, none⟩ e).cell? ⟨g1, 0, none⟩ = some (.string mq) ∧ (((((w1.setCell ⟨G, 0, none⟩ a).setCell ⟨G, 1, none⟩ b).setCell ⟨G, 2, none⟩ c).setCell ⟨G, 3, none⟩ d).setCell ⟨G, 4, none⟩ e).cell? ⟨g1, 1, none⟩ = some (.int .u64 (id : Nat)) ∧ (((((w1.setCell ⟨G, 0, none⟩ a).setCell ⟨G, 1, none⟩ b).setCell ⟨G, 2, none⟩ c).setCell ⟨G, 3, none⟩ d).setCell ⟨G, 4, none⟩ e).cell? ⟨g1, 2, none⟩ = some (.int .u32 (mtr : Nat)) ∧ (((((w1.setCell ⟨G, 0, none⟩ a).setCell ⟨G, 1, none⟩ b).setCell ⟨G, 2, none⟩ c).setCell ⟨G, 3, none⟩ d).setCell ⟨G, 4, none⟩ e).cell? ⟨g1, 3, none⟩ = some (.int .u64 (mttl : Nat)) ∧ (((((w1.setCell ⟨G, 0, none⟩ a).setCell ⟨G, 1, none⟩ b).setCell ⟨G, 2, none⟩ c).setCell ⟨G, 3, none⟩ d).setCell ⟨G, 4, none⟩ e).cell? ⟨g1, 4, none⟩ = some (.string body)) := fun w1 G a b c d e h hG => HRS _ _ _ _ (HRS _ _ _ _ (HRS _ _ _ _ (HRS _ _ _ _ (HRS _ _ _ _ h hG) hG) hG) hG) hG
    have HRVH := Lib.hid HRV
    clear HRV
    have HX0 := Lib.hid X0
    clear X0 x0 x1 x2 x3 x4 x5 x6 x7 x8 x9
    have HRBH := Lib.hid HRB
    have HRSH := Lib.hid HRS
    clear HRB HRS
    obtain ⟨⟨⟨f0, f1, f2, f3, f4⟩, er⟩, hE1⟩ : ∃ z, rdEndqu nm (B (Oct.be 1 1) ++ quBytes most ttl tries dead) = z := ⟨_, rfl⟩
    have hCA : (er = 0 ∧ dead.size ≤ 32 ∧ nm = f0 ∧ most = f1 ∧ ttl = f2 ∧ tries = f3 ∧ dead = f4) ∨ (er = 5 ∧ 32 < dead.size) := by
      by_cases h : dead.size ≤ 32
      · rw [qu_round nm most ttl tries dead h1 h2 h3 h] at hE1
        simp only [Prod.mk.injEq] at hE1
        exact .inl ⟨hE1.2.symm, h, hE1.1⟩
      · rw [qu_round_long nm most ttl tries dead h1 h2 h3 (by omega) hd] at hE1
        simp only [Prod.mk.injEq] at hE1
        exact .inr ⟨hE1.2.symm, by omega⟩
    have hxq : (B (Oct.be 1 1) ++ quBytes most ttl tries dead).size ≤ maxLen := by
      unfold maxLen
      rw [ByteArray.size_append, B_be_size, quBytes_size]; omega
    have cA := fun w1 => Lib.hid (qu_mk nm w1)
    have cB := fun w1 => Lib.hid (qu_mk ⟨#[]⟩ w1)
    have cC := fun v w1 h => Lib.hid (qu_bytes nm most ttl tries dead h1 h2 h3 (by omega) v ⟨#[]⟩ w1 h)
    have cD := fun v w1 h => Lib.hid (qu_read _ hxq nm v w1 h hE1)
    clear hE1 hxq
    generalize B (Oct.be 1 1) ++ quBytes most ttl tries dead = u1 at *
    have HCA := Lib.hid hCA
    clear hCA
    go_cut [9, 10] (fun p e wc => ∃ G : Nat, p = .pointer (some ⟨G, 0, none⟩) ∧ e = .int .i64 er ∧ Hid (Gr V wc ∧ wc.heap[G]? = some (.cells #[.string f0, .int .u32 (f1 : Nat), .int .u64 (f2 : Nat), .int .u32 (f3 : Nat), .string f4] 25 (0, 0))))
    case first =>
      go_region_held3 (fun w' => w'.cell? ⟨g0, 0, none⟩ = some (.string nm) ∧ w'.cell? ⟨g0, 1, none⟩ = some (.int .u32 (most : Nat)) ∧ w'.cell? ⟨g0, 2, none⟩ = some (.int .u64 (ttl : Nat)) ∧ w'.cell? ⟨g0, 3, none⟩ = some (.int .u32 (tries : Nat)) ∧ w'.cell? ⟨g0, 4, none⟩ = some (.string dead) ∧ w'.cell? ⟨g1, 0, none⟩ = some (.string mq) ∧ w'.cell? ⟨g1, 1, none⟩ = some (.int .u64 (id : Nat)) ∧ w'.cell? ⟨g1, 2, none⟩ = some (.int .u32 (mtr : Nat)) ∧ w'.cell? ⟨g1, 3, none⟩ = some (.int .u64 (mttl : Nat)) ∧ w'.cell? ⟨g1, 4, none⟩ = some (.string body)) (first | (with_reducible exact HRVH.out _ _ _ _ _ _ _ HQ.out HN.out.2) | (with_reducible exact HQ.out) | (with_reducible exact HRBH.out _ _ HQ.out ((Gr.refl _).alloc _)) | (with_reducible exact HRBH.out _ _ HX0.out (Gr.refl _).drew) | (with_reducible exact HRBH.out _ _ HX0.out ((Gr.refl _).drew.alloc _)) | (trace "KEEP"; trace_state; fail))
        (first
          | (go_at_call 10; (with_reducible show Calls _ _ #[.string nm] _ _); refine (cA _).out.mono ?_; rintro r v1 ⟨cvA, rfl, hf, hg⟩; have hh : Gr V.drew v1 := (by first | (with_reducible exact hg) | exact ((Gr.refl _).alloc _).trans hg); have HV1 : Hid (Gr V v1) := (Gr.refl V).drew.trans hh; have HQ : Hid (v1.cell? ⟨g0, 0, none⟩ = some (.string nm) ∧ v1.cell? ⟨g0, 1, none⟩ = some (.int .u32 (most : Nat)) ∧ v1.cell? ⟨g0, 2, none⟩ = some (.int .u64 (ttl : Nat)) ∧ v1.cell? ⟨g0, 3, none⟩ = some (.int .u32 (tries : Nat)) ∧ v1.cell? ⟨g0, 4, none⟩ = some (.string dead) ∧ v1.cell? ⟨g1, 0, none⟩ = some (.string mq) ∧ v1.cell? ⟨g1, 1, none⟩ = some (.int .u64 (id : Nat)) ∧ v1.cell? ⟨g1, 2, none⟩ = some (.int .u32 (mtr : Nat)) ∧ v1.cell? ⟨g1, 3, none⟩ = some (.int .u64 (mttl : Nat)) ∧ v1.cell? ⟨g1, 4, none⟩ = some (.string body)) := HRBH.out _ _ (HRBH.out _ _ HX0.out (Gr.refl _).drew) hh; (try have HN : Hid (v1.heap[V.heap.size]? = some (.cells #[.string { data := #[] }, .int .u32 0, .int .u64 0, .int .u32 0, .string { data := #[] }] 25 (0, 0)) ∧ V.heap.size ≤ V.heap.size) := And.intro ((hg.block (show V.heap.size < (V.alloc (.cells #[.string { data := #[] }, .int .u32 0, .int .u64 0, .int .u32 0, .string { data := #[] }] 25)).heap.size by rw [alloc_size]; exact Nat.lt_succ_self _)).trans (heap_alloc_last V (.cells #[.string { data := #[] }, .int .u32 0, .int .u64 0, .int .u32 0, .string { data := #[] }] 25))) (Nat.le_refl _)); have HFA := Lib.hid hf; clear hf; clear hg hh)
          | (go_at_call 10; (with_reducible show Calls _ _ #[.string ⟨#[]⟩] _ _); refine (cB _).out.mono ?_; rintro r v2 ⟨cvB, rfl, hf, hg⟩; have hh : Gr v1 v2 := (by first | (with_reducible exact hg) | exact ((Gr.refl _).alloc _).trans hg); have HV2 : Hid (Gr V v2) := HV1.out.trans hh; have HQ : Hid (v2.cell? ⟨g0, 0, none⟩ = some (.string nm) ∧ v2.cell? ⟨g0, 1, none⟩ = some (.int .u32 (most : Nat)) ∧ v2.cell? ⟨g0, 2, none⟩ = some (.int .u64 (ttl : Nat)) ∧ v2.cell? ⟨g0, 3, none⟩ = some (.int .u32 (tries : Nat)) ∧ v2.cell? ⟨g0, 4, none⟩ = some (.string dead) ∧ v2.cell? ⟨g1, 0, none⟩ = some (.string mq) ∧ v2.cell? ⟨g1, 1, none⟩ = some (.int .u64 (id : Nat)) ∧ v2.cell? ⟨g1, 2, none⟩ = some (.int .u32 (mtr : Nat)) ∧ v2.cell? ⟨g1, 3, none⟩ = some (.int .u64 (mttl : Nat)) ∧ v2.cell? ⟨g1, 4, none⟩ = some (.string body)) := HRBH.out _ _ HQ.out hh; (try have HN := Lib.hid (And.intro ((hh.block (lt_of_row HN.out.1)).trans HN.out.1) HN.out.2)); (try have HN := Lib.hid (And.intro ((hg.block (by rw [alloc_size]; exact Nat.lt_succ_self _)).trans (heap_alloc_last v1 (.cells #[.string { data := #[] }, .int .u32 0, .int .u64 0, .int .u32 0, .string { data := #[] }] 25))) HV1.out.size)); have HFB := Lib.hid hf; have HFA2 := Lib.hid (HFA.out.gr hh); clear hf HFA; clear hg hh)
          | (go_at_call 11; refine (cC _ _ (by first | (with_reducible exact HFB.out) | exact HFB.out.gr ((Gr.refl _).alloc _))).out.mono ?_; rintro r v3 ⟨rfl, hg⟩; have hh : Gr v2 v3 := (by first | (with_reducible exact hg) | exact ((Gr.refl _).alloc _).trans hg); have HV3 : Hid (Gr V v3) := HV2.out.trans hh; have HQ : Hid (v3.cell? ⟨g0, 0, none⟩ = some (.string nm) ∧ v3.cell? ⟨g0, 1, none⟩ = some (.int .u32 (most : Nat)) ∧ v3.cell? ⟨g0, 2, none⟩ = some (.int .u64 (ttl : Nat)) ∧ v3.cell? ⟨g0, 3, none⟩ = some (.int .u32 (tries : Nat)) ∧ v3.cell? ⟨g0, 4, none⟩ = some (.string dead) ∧ v3.cell? ⟨g1, 0, none⟩ = some (.string mq) ∧ v3.cell? ⟨g1, 1, none⟩ = some (.int .u64 (id : Nat)) ∧ v3.cell? ⟨g1, 2, none⟩ = some (.int .u32 (mtr : Nat)) ∧ v3.cell? ⟨g1, 3, none⟩ = some (.int .u64 (mttl : Nat)) ∧ v3.cell? ⟨g1, 4, none⟩ = some (.string body)) := HRBH.out _ _ HQ.out hh; (try have HN := Lib.hid (And.intro ((hh.block (lt_of_row HN.out.1)).trans HN.out.1) HN.out.2)); (try have HN := Lib.hid (And.intro ((hg.block (by rw [alloc_size]; exact Nat.lt_succ_self _)).trans (heap_alloc_last v2 (.cells #[.string { data := #[] }, .int .u32 0, .int .u64 0, .int .u32 0, .string { data := #[] }] 25))) HV2.out.size)); have HFA3 := Lib.hid (HFA2.out.gr hh); clear hg hh)
          | (go_at_call 19; refine (cD _ _ (by first | (with_reducible exact HFA3.out) | exact HFA3.out.gr ((Gr.refl _).alloc _))).out.mono ?_; rintro r v4 ⟨rfl, hg⟩; have hh : Gr v3 v4 := (by first | (with_reducible exact hg) | exact ((Gr.refl _).alloc _).trans hg); have HV4 : Hid (Gr V v4) := HV3.out.trans hh; have HQ : Hid (v4.cell? ⟨g0, 0, none⟩ = some (.string nm) ∧ v4.cell? ⟨g0, 1, none⟩ = some (.int .u32 (most : Nat)) ∧ v4.cell? ⟨g0, 2, none⟩ = some (.int .u64 (ttl : Nat)) ∧ v4.cell? ⟨g0, 3, none⟩ = some (.int .u32 (tries : Nat)) ∧ v4.cell? ⟨g0, 4, none⟩ = some (.string dead) ∧ v4.cell? ⟨g1, 0, none⟩ = some (.string mq) ∧ v4.cell? ⟨g1, 1, none⟩ = some (.int .u64 (id : Nat)) ∧ v4.cell? ⟨g1, 2, none⟩ = some (.int .u32 (mtr : Nat)) ∧ v4.cell? ⟨g1, 3, none⟩ = some (.int .u64 (mttl : Nat)) ∧ v4.cell? ⟨g1, 4, none⟩ = some (.string body)) := HRBH.out _ _ HQ.out hh; (try have HN := Lib.hid (And.intro ((hh.block (lt_of_row HN.out.1)).trans HN.out.1) HN.out.2)); (try have HN := Lib.hid (And.intro ((hg.block (by rw [alloc_size]; exact Nat.lt_succ_self _)).trans (heap_alloc_last v3 (.cells #[.string { data := #[] }, .int .u32 0, .int .u64 0, .int .u32 0, .string { data := #[] }] 25))) HV3.out.size)); (try (have zc0 := row_cell HN.out.1 0 _ rfl; have zf0 := frozen_of_row _ _ 0 _ _ HN.out.1; have zc1 := row_cell HN.out.1 1 _ rfl; have zf1 := frozen_of_row _ _ 1 _ _ HN.out.1; have zc2 := row_cell HN.out.1 2 _ rfl; have zf2 := frozen_of_row _ _ 2 _ _ HN.out.1; have zc3 := row_cell HN.out.1 3 _ rfl; have zf3 := frozen_of_row _ _ 3 _ _ HN.out.1; have zc4 := row_cell HN.out.1 4 _ rfl; have zf4 := frozen_of_row _ _ 4 _ _ HN.out.1)); clear hg hh))
      all_goals (try go_wp2)
      all_goals go_meet
      all_goals first
        | exact ⟨_, rfl, rfl, HV4.out.alloc _, heap_alloc_last _ _⟩
        | exact ⟨_, rfl, rfl, (((((HV4.out.setCell HN.out.2 _).setCell HN.out.2 _).setCell HN.out.2 _).setCell HN.out.2 _).setCell HN.out.2 _), (heap_setCell_same _ _ 4 _ _ _ (heap_setCell_same _ _ 3 _ _ _ (heap_setCell_same _ _ 2 _ _ _ (heap_setCell_same _ _ 1 _ _ _ (heap_setCell_same _ _ 0 _ _ _ HN.out.1)))))⟩
    case rest =>
      obtain ⟨G, rfl, rfl, HC5⟩ := hcut
      have HX2 : Hid (wc.cell? ⟨g0, 0, none⟩ = some (.string nm) ∧ wc.cell? ⟨g0, 1, none⟩ = some (.int .u32 (most : Nat)) ∧ wc.cell? ⟨g0, 2, none⟩ = some (.int .u64 (ttl : Nat)) ∧ wc.cell? ⟨g0, 3, none⟩ = some (.int .u32 (tries : Nat)) ∧ wc.cell? ⟨g0, 4, none⟩ = some (.string dead) ∧ wc.cell? ⟨g1, 0, none⟩ = some (.string mq) ∧ wc.cell? ⟨g1, 1, none⟩ = some (.int .u64 (id : Nat)) ∧ wc.cell? ⟨g1, 2, none⟩ = some (.int .u32 (mtr : Nat)) ∧ wc.cell? ⟨g1, 3, none⟩ = some (.int .u64 (mttl : Nat)) ∧ wc.cell? ⟨g1, 4, none⟩ = some (.string body)) := HRBH.out _ _ HX0.out HC5.out.1
      have HY5 := Lib.hid HC5.out.2
      have HG5 := Lib.hid HC5.out.1
      clear HC5
      generalize wc = V2 at *
      go_upto_region 6 with fail
      go_cut [57] (fun v wc => v = .bool false ∧ Hid (Gr V2 wc))
      case first =>
        obtain ⟨z0, z1, z2, z3, z4, z5, z6, z7, z8, z9⟩ := HX2.out
        have y0 : V2.cell? ⟨G, 0, none⟩ = some (.string f0) := row_cell HY5.out 0 _ rfl
        have y1 : V2.cell? ⟨G, 1, none⟩ = some (.int .u32 (f1 : Nat)) := row_cell HY5.out 1 _ rfl
        have y2 : V2.cell? ⟨G, 2, none⟩ = some (.int .u64 (f2 : Nat)) := row_cell HY5.out 2 _ rfl
        have y3 : V2.cell? ⟨G, 3, none⟩ = some (.int .u32 (f3 : Nat)) := row_cell HY5.out 3 _ rfl
        have y4 : V2.cell? ⟨G, 4, none⟩ = some (.string f4) := row_cell HY5.out 4 _ rfl
        rcases HCA.out with ⟨he, hl, e0, e1, e2, e3, e4⟩ | ⟨he, hl⟩
        · subst he e0 e1 e2 e3 e4
          have hl' : (dead.size : Int) ≤ 32 := by omega
          go_wp2
          go_meet
          exact ⟨rfl, Gr.refl _⟩
        · subst he
          have hl' : ¬ (dead.size : Int) ≤ 32 := by omega
          go_wp2
          go_meet
          exact ⟨rfl, Gr.refl _⟩
      case rest =>
        obtain ⟨rfl, HC6⟩ := hcut
        have HX3 : Hid (wc.cell? ⟨g0, 0, none⟩ = some (.string nm) ∧ wc.cell? ⟨g0, 1, none⟩ = some (.int .u32 (most : Nat)) ∧ wc.cell? ⟨g0, 2, none⟩ = some (.int .u64 (ttl : Nat)) ∧ wc.cell? ⟨g0, 3, none⟩ = some (.int .u32 (tries : Nat)) ∧ wc.cell? ⟨g0, 4, none⟩ = some (.string dead) ∧ wc.cell? ⟨g1, 0, none⟩ = some (.string mq) ∧ wc.cell? ⟨g1, 1, none⟩ = some (.int .u64 (id : Nat)) ∧ wc.cell? ⟨g1, 2, none⟩ = some (.int .u32 (mtr : Nat)) ∧ wc.cell? ⟨g1, 3, none⟩ = some (.int .u64 (mttl : Nat)) ∧ wc.cell? ⟨g1, 4, none⟩ = some (.string body)) := HRBH.out _ _ HX2.out HC6.out
        have HG6 : Hid (Gr V wc) := HG5.out.trans HC6.out
        clear HX2 HY5 HG5 HC6 HCA
        generalize wc = V3 at *
        have hE8 := me_round mq id mtr mttl body k2 k3 hb
        have hxm : (B (Oct.be 1 1) ++ meBytes mtr mttl body).size ≤ maxLen := by
          unfold maxLen
          rw [ByteArray.size_append, B_be_size, meBytes_size]; omega
        have mA := fun w1 => Lib.hid (me_mk mq id w1)
        have mB := fun w1 => Lib.hid (me_mk ⟨#[]⟩ 0 w1)
        have mC := fun v w1 h => Lib.hid (me_bytes mq id mtr mttl body k2 k3 (by omega) v ⟨#[]⟩ 0 w1 h)
        have mD := fun v w1 h => Lib.hid (me_read _ hxm mq id v w1 h hE8)
        clear hE8 hxm
        have e00 : ((0 : Nat) : Int) = 0 := rfl
        generalize B (Oct.be 1 1) ++ meBytes mtr mttl body = u2 at *
        simp only [e00] at mB
        go_upto_region 8 with fail
        go_cut [11, 12] (fun p e wc => ∃ G : Nat, p = .pointer (some ⟨G, 0, none⟩) ∧ e = .int .i64 0 ∧ Hid (Gr V3 wc ∧ wc.heap[G]? = some (.cells #[.string mq, .int .u64 (id : Nat), .int .u32 (mtr : Nat), .int .u64 (mttl : Nat), .string body] 27 (0, 0))))
        case first =>
          go_region_held3 (fun w' => w'.cell? ⟨g0, 0, none⟩ = some (.string nm) ∧ w'.cell? ⟨g0, 1, none⟩ = some (.int .u32 (most : Nat)) ∧ w'.cell? ⟨g0, 2, none⟩ = some (.int .u64 (ttl : Nat)) ∧ w'.cell? ⟨g0, 3, none⟩ = some (.int .u32 (tries : Nat)) ∧ w'.cell? ⟨g0, 4, none⟩ = some (.string dead) ∧ w'.cell? ⟨g1, 0, none⟩ = some (.string mq) ∧ w'.cell? ⟨g1, 1, none⟩ = some (.int .u64 (id : Nat)) ∧ w'.cell? ⟨g1, 2, none⟩ = some (.int .u32 (mtr : Nat)) ∧ w'.cell? ⟨g1, 3, none⟩ = some (.int .u64 (mttl : Nat)) ∧ w'.cell? ⟨g1, 4, none⟩ = some (.string body)) (first | (with_reducible exact HRVH.out _ _ _ _ _ _ _ HQ.out (Nat.le_trans HG6.out.size HN.out.2)) | (with_reducible exact HQ.out) | (with_reducible exact HRBH.out _ _ HQ.out ((Gr.refl _).alloc _)) | (with_reducible exact HRBH.out _ _ HX3.out (Gr.refl _).drew) | (with_reducible exact HRBH.out _ _ HX3.out ((Gr.refl _).drew.alloc _)) | (trace "KEEP"; trace_state; fail))
            (first
              | (go_at_call 13; (with_reducible show Calls _ _ #[.string mq, _] _ _); refine (mA _).out.mono ?_; rintro r v1 ⟨cvA, rfl, hf, hg⟩; have hh : Gr V3.drew v1 := (by first | (with_reducible exact hg) | exact ((Gr.refl _).alloc _).trans hg); have HV1 : Hid (Gr V3 v1) := (Gr.refl V3).drew.trans hh; have HQ : Hid (v1.cell? ⟨g0, 0, none⟩ = some (.string nm) ∧ v1.cell? ⟨g0, 1, none⟩ = some (.int .u32 (most : Nat)) ∧ v1.cell? ⟨g0, 2, none⟩ = some (.int .u64 (ttl : Nat)) ∧ v1.cell? ⟨g0, 3, none⟩ = some (.int .u32 (tries : Nat)) ∧ v1.cell? ⟨g0, 4, none⟩ = some (.string dead) ∧ v1.cell? ⟨g1, 0, none⟩ = some (.string mq) ∧ v1.cell? ⟨g1, 1, none⟩ = some (.int .u64 (id : Nat)) ∧ v1.cell? ⟨g1, 2, none⟩ = some (.int .u32 (mtr : Nat)) ∧ v1.cell? ⟨g1, 3, none⟩ = some (.int .u64 (mttl : Nat)) ∧ v1.cell? ⟨g1, 4, none⟩ = some (.string body)) := HRBH.out _ _ (HRBH.out _ _ HX3.out (Gr.refl _).drew) hh; (try have HN : Hid (v1.heap[V3.heap.size]? = some (.cells #[.string { data := #[] }, .int .u64 0, .int .u32 0, .int .u64 0, .string { data := #[] }] 27 (0, 0)) ∧ V3.heap.size ≤ V3.heap.size) := And.intro ((hg.block (show V3.heap.size < (V3.alloc (.cells #[.string { data := #[] }, .int .u64 0, .int .u32 0, .int .u64 0, .string { data := #[] }] 27)).heap.size by rw [alloc_size]; exact Nat.lt_succ_self _)).trans (heap_alloc_last V3 (.cells #[.string { data := #[] }, .int .u64 0, .int .u32 0, .int .u64 0, .string { data := #[] }] 27))) (Nat.le_refl _)); have HFA := Lib.hid hf; clear hf; clear hg hh)
              | (go_at_call 13; (with_reducible show Calls _ _ #[.string ⟨#[]⟩, _] _ _); refine (mB _).out.mono ?_; rintro r v2 ⟨cvB, rfl, hf, hg⟩; have hh : Gr v1 v2 := (by first | (with_reducible exact hg) | exact ((Gr.refl _).alloc _).trans hg); have HV2 : Hid (Gr V3 v2) := HV1.out.trans hh; have HQ : Hid (v2.cell? ⟨g0, 0, none⟩ = some (.string nm) ∧ v2.cell? ⟨g0, 1, none⟩ = some (.int .u32 (most : Nat)) ∧ v2.cell? ⟨g0, 2, none⟩ = some (.int .u64 (ttl : Nat)) ∧ v2.cell? ⟨g0, 3, none⟩ = some (.int .u32 (tries : Nat)) ∧ v2.cell? ⟨g0, 4, none⟩ = some (.string dead) ∧ v2.cell? ⟨g1, 0, none⟩ = some (.string mq) ∧ v2.cell? ⟨g1, 1, none⟩ = some (.int .u64 (id : Nat)) ∧ v2.cell? ⟨g1, 2, none⟩ = some (.int .u32 (mtr : Nat)) ∧ v2.cell? ⟨g1, 3, none⟩ = some (.int .u64 (mttl : Nat)) ∧ v2.cell? ⟨g1, 4, none⟩ = some (.string body)) := HRBH.out _ _ HQ.out hh; (try have HN := Lib.hid (And.intro ((hh.block (lt_of_row HN.out.1)).trans HN.out.1) HN.out.2)); (try have HN := Lib.hid (And.intro ((hg.block (by rw [alloc_size]; exact Nat.lt_succ_self _)).trans (heap_alloc_last v1 (.cells #[.string { data := #[] }, .int .u64 0, .int .u32 0, .int .u64 0, .string { data := #[] }] 27))) HV1.out.size)); have HFB := Lib.hid hf; have HFA2 := Lib.hid (HFA.out.gr hh); clear hf HFA; clear hg hh)
              | (go_at_call 14; refine (mC _ _ (by first | (with_reducible exact HFB.out) | exact HFB.out.gr ((Gr.refl _).alloc _))).out.mono ?_; rintro r v3 ⟨rfl, hg⟩; have hh : Gr v2 v3 := (by first | (with_reducible exact hg) | exact ((Gr.refl _).alloc _).trans hg); have HV3 : Hid (Gr V3 v3) := HV2.out.trans hh; have HQ : Hid (v3.cell? ⟨g0, 0, none⟩ = some (.string nm) ∧ v3.cell? ⟨g0, 1, none⟩ = some (.int .u32 (most : Nat)) ∧ v3.cell? ⟨g0, 2, none⟩ = some (.int .u64 (ttl : Nat)) ∧ v3.cell? ⟨g0, 3, none⟩ = some (.int .u32 (tries : Nat)) ∧ v3.cell? ⟨g0, 4, none⟩ = some (.string dead) ∧ v3.cell? ⟨g1, 0, none⟩ = some (.string mq) ∧ v3.cell? ⟨g1, 1, none⟩ = some (.int .u64 (id : Nat)) ∧ v3.cell? ⟨g1, 2, none⟩ = some (.int .u32 (mtr : Nat)) ∧ v3.cell? ⟨g1, 3, none⟩ = some (.int .u64 (mttl : Nat)) ∧ v3.cell? ⟨g1, 4, none⟩ = some (.string body)) := HRBH.out _ _ HQ.out hh; (try have HN := Lib.hid (And.intro ((hh.block (lt_of_row HN.out.1)).trans HN.out.1) HN.out.2)); (try have HN := Lib.hid (And.intro ((hg.block (by rw [alloc_size]; exact Nat.lt_succ_self _)).trans (heap_alloc_last v2 (.cells #[.string { data := #[] }, .int .u64 0, .int .u32 0, .int .u64 0, .string { data := #[] }] 27))) HV2.out.size)); have HFA3 := Lib.hid (HFA2.out.gr hh); clear hg hh)
              | (go_at_call 20; refine (mD _ _ (by first | (with_reducible exact HFA3.out) | exact HFA3.out.gr ((Gr.refl _).alloc _))).out.mono ?_; rintro r v4 ⟨rfl, hg⟩; have hh : Gr v3 v4 := (by first | (with_reducible exact hg) | exact ((Gr.refl _).alloc _).trans hg); have HV4 : Hid (Gr V3 v4) := HV3.out.trans hh; have HQ : Hid (v4.cell? ⟨g0, 0, none⟩ = some (.string nm) ∧ v4.cell? ⟨g0, 1, none⟩ = some (.int .u32 (most : Nat)) ∧ v4.cell? ⟨g0, 2, none⟩ = some (.int .u64 (ttl : Nat)) ∧ v4.cell? ⟨g0, 3, none⟩ = some (.int .u32 (tries : Nat)) ∧ v4.cell? ⟨g0, 4, none⟩ = some (.string dead) ∧ v4.cell? ⟨g1, 0, none⟩ = some (.string mq) ∧ v4.cell? ⟨g1, 1, none⟩ = some (.int .u64 (id : Nat)) ∧ v4.cell? ⟨g1, 2, none⟩ = some (.int .u32 (mtr : Nat)) ∧ v4.cell? ⟨g1, 3, none⟩ = some (.int .u64 (mttl : Nat)) ∧ v4.cell? ⟨g1, 4, none⟩ = some (.string body)) := HRBH.out _ _ HQ.out hh; (try have HN := Lib.hid (And.intro ((hh.block (lt_of_row HN.out.1)).trans HN.out.1) HN.out.2)); (try have HN := Lib.hid (And.intro ((hg.block (by rw [alloc_size]; exact Nat.lt_succ_self _)).trans (heap_alloc_last v3 (.cells #[.string { data := #[] }, .int .u64 0, .int .u32 0, .int .u64 0, .string { data := #[] }] 27))) HV3.out.size)); (try (have zc0 := row_cell HN.out.1 0 _ rfl; have zf0 := frozen_of_row _ _ 0 _ _ HN.out.1; have zc1 := row_cell HN.out.1 1 _ rfl; have zf1 := frozen_of_row _ _ 1 _ _ HN.out.1; have zc2 := row_cell HN.out.1 2 _ rfl; have zf2 := frozen_of_row _ _ 2 _ _ HN.out.1; have zc3 := row_cell HN.out.1 3 _ rfl; have zf3 := frozen_of_row _ _ 3 _ _ HN.out.1; have zc4 := row_cell HN.out.1 4 _ rfl; have zf4 := frozen_of_row _ _ 4 _ _ HN.out.1)); clear hg hh))
          all_goals (try go_wp2)
          all_goals go_meet
          all_goals first
            | exact ⟨_, rfl, rfl, HV4.out.alloc _, heap_alloc_last _ _⟩
            | exact ⟨_, rfl, rfl, (((((HV4.out.setCell HN.out.2 _).setCell HN.out.2 _).setCell HN.out.2 _).setCell HN.out.2 _).setCell HN.out.2 _), (heap_setCell_same _ _ 4 _ _ _ (heap_setCell_same _ _ 3 _ _ _ (heap_setCell_same _ _ 2 _ _ _ (heap_setCell_same _ _ 1 _ _ _ (heap_setCell_same _ _ 0 _ _ _ HN.out.1)))))⟩
        case rest =>
          obtain ⟨G, rfl, rfl, HC8⟩ := hcut
          have HX5 : Hid (wc.cell? ⟨g0, 0, none⟩ = some (.string nm) ∧ wc.cell? ⟨g0, 1, none⟩ = some (.int .u32 (most : Nat)) ∧ wc.cell? ⟨g0, 2, none⟩ = some (.int .u64 (ttl : Nat)) ∧ wc.cell? ⟨g0, 3, none⟩ = some (.int .u32 (tries : Nat)) ∧ wc.cell? ⟨g0, 4, none⟩ = some (.string dead) ∧ wc.cell? ⟨g1, 0, none⟩ = some (.string mq) ∧ wc.cell? ⟨g1, 1, none⟩ = some (.int .u64 (id : Nat)) ∧ wc.cell? ⟨g1, 2, none⟩ = some (.int .u32 (mtr : Nat)) ∧ wc.cell? ⟨g1, 3, none⟩ = some (.int .u64 (mttl : Nat)) ∧ wc.cell? ⟨g1, 4, none⟩ = some (.string body)) := HRBH.out _ _ HX3.out HC8.out.1
          have HY8 := Lib.hid HC8.out.2
          have HG8 : Hid (Gr V wc) := HG6.out.trans HC8.out.1
          clear HC8 HX3 HG6
          generalize wc = V5 at *
          go_upto_region 9 with fail
          go_cut [76] (fun v wc => v = .bool false ∧ Hid (Gr V5 wc))
          case first =>
            obtain ⟨z0, z1, z2, z3, z4, z5, z6, z7, z8, z9⟩ := HX5.out
            have y0 : V5.cell? ⟨G, 0, none⟩ = some (.string mq) := row_cell HY8.out 0 _ rfl
            have y1 : V5.cell? ⟨G, 1, none⟩ = some (.int .u64 (id : Nat)) := row_cell HY8.out 1 _ rfl
            have y2 : V5.cell? ⟨G, 2, none⟩ = some (.int .u32 (mtr : Nat)) := row_cell HY8.out 2 _ rfl
            have y3 : V5.cell? ⟨G, 3, none⟩ = some (.int .u64 (mttl : Nat)) := row_cell HY8.out 3 _ rfl
            have y4 : V5.cell? ⟨G, 4, none⟩ = some (.string body) := row_cell HY8.out 4 _ rfl
            go_wp2
            go_meet
            exact ⟨rfl, Gr.refl _⟩
          case rest =>
            obtain ⟨rfl, HC9⟩ := hcut
            have HG9 : Hid (Gr w wc) := HV0.out.trans (HG8.out.trans HC9.out)
            clear HX5 HY8 HG8 HC9 HX0 HRBH HRSH HRRH HRVH HLT HV0 hd hb
            generalize wc = V6 at *
            have tV := fun w1 => Lib.hid (tw_ver w1)
            go_wp2_with (first
              | (go_at_call 21; refine (tV _).out.mono ?_; clear tV; rintro r u1 ⟨cv, rfl, ⟨b1, b2, rfl, hb1, hb2⟩, hg⟩; have HT := Lib.hid (And.intro (HG9.out.trans hg) (And.intro hb1 hb2)); clear hg hb1 hb2))
            have HU : Hid (Gr w (u1.alloc (.cells #[.func (.func 73) #[] #[.pointer (some ⟨b1, 0, none⟩)], .func (.func 75) #[] #[.pointer (some ⟨b2, 0, none⟩)]] 55)) ∧ ((u1.alloc (.cells #[.func (.func 73) #[] #[.pointer (some ⟨b1, 0, none⟩)], .func (.func 75) #[] #[.pointer (some ⟨b2, 0, none⟩)]] 55)).cell? ⟨b1, 0, none⟩ = some (.func (.func 22) #[] #[]) ∧ (u1.alloc (.cells #[.func (.func 73) #[] #[.pointer (some ⟨b1, 0, none⟩)], .func (.func 75) #[] #[.pointer (some ⟨b2, 0, none⟩)]] 55)).cell? ⟨b2, 0, none⟩ = some (.func (.func 23) #[] #[])) ∧ (u1.alloc (.cells #[.func (.func 73) #[] #[.pointer (some ⟨b1, 0, none⟩)], .func (.func 75) #[] #[.pointer (some ⟨b2, 0, none⟩)]] 55)).heap[u1.heap.size]? = some (.cells #[.func (.func 73) #[] #[.pointer (some ⟨b1, 0, none⟩)], .func (.func 75) #[] #[.pointer (some ⟨b2, 0, none⟩)]] 55 (0, 0))) := ⟨HT.out.1.alloc _, ⟨((Gr.refl u1).alloc _).cells HT.out.2.1, ((Gr.refl u1).alloc _).cells HT.out.2.2⟩, heap_alloc_last _ _⟩
            clear HT HG9
            generalize (u1.alloc (.cells #[.func (.func 73) #[] #[.pointer (some ⟨b1, 0, none⟩)], .func (.func 75) #[] #[.pointer (some ⟨b2, 0, none⟩)]] 55)) = U at *
            generalize u1.heap.size = gc at *
            have q0 : U.cell? ⟨gc, 0, none⟩ = some (.func (.func 73) #[] #[.pointer (some ⟨b1, 0, none⟩)]) := row_cell HU.out.2.2 0 _ rfl
            have q1 : U.cell? ⟨gc, 1, none⟩ = some (.func (.func 75) #[] #[.pointer (some ⟨b2, 0, none⟩)]) := row_cell HU.out.2.2 1 _ rfl
            have tB := fun v w1 h => Lib.hid (tw_bytes n hn v w1 h)
            have tR := fun v w1 h => Lib.hid (tw_read (B (Oct.be 1 1) ++ B (Oct.be n 2)) (by unfold maxLen; rw [ByteArray.size_append, B_be_size, B_be_size]; omega) v w1 h)
            rw [tw_round n hn] at tR
            generalize B (Oct.be 1 1) ++ B (Oct.be n 2) = u3 at *
            go_region_held3 (fun w' => w'.cell? ⟨gc, 0, none⟩ = some (.func (.func 73) #[] #[.pointer (some ⟨b1, 0, none⟩)]) ∧ w'.cell? ⟨gc, 1, none⟩ = some (.func (.func 75) #[] #[.pointer (some ⟨b2, 0, none⟩)])) (first | exact ⟨q0, q1⟩ | exact HQ.out | assumption)
              (first
                | (go_at_call 25; refine (tB _ _ ⟨b1, b2, rfl, (Gr.refl U).drew.cells HU.out.2.1.1, (Gr.refl U).drew.cells HU.out.2.1.2⟩).out.mono ?_; clear tB; rintro r v1 ⟨rfl, hg⟩; have HV1 : Hid (Gr U v1) := (Gr.refl U).drew.trans hg; have HQ := Lib.hid (And.intro (HV1.out.cells q0) (HV1.out.cells q1)); clear hg)
                | (go_at_call 24; refine (tR _ _ ⟨b1, b2, rfl, HV1.out.cells HU.out.2.1.1, HV1.out.cells HU.out.2.1.2⟩).out.mono ?_; clear tR; rintro r v2 ⟨rfl, hg⟩; have HV2 : Hid (Gr U v2) := HV1.out.trans hg; have HQ := Lib.hid (And.intro (HV2.out.cells q0) (HV2.out.cells q1)); clear hg))
            try go_wp2
            have HU2 : Hid (Gr w v2 ∧ (v2.cell? ⟨b1, 0, none⟩ = some (.func (.func 22) #[] #[]) ∧ v2.cell? ⟨b2, 0, none⟩ = some (.func (.func 23) #[] #[])) ∧ (v2.cell? ⟨gc, 0, none⟩ = some (.func (.func 73) #[] #[.pointer (some ⟨b1, 0, none⟩)]) ∧ v2.cell? ⟨gc, 1, none⟩ = some (.func (.func 75) #[] #[.pointer (some ⟨b2, 0, none⟩)]))) := ⟨HU.out.1.trans HV2.out, ⟨HV2.out.cells HU.out.2.1.1, HV2.out.cells HU.out.2.1.2⟩, HV2.out.cells q0, HV2.out.cells q1⟩
            clear HU HV2 q0 q1
            generalize v2 = X at *
            have hq0 := HU2.out.2.2.1
            have hq1 := HU2.out.2.2.2
            have HSL : Hid (SliceAt (X.alloc (.cells #[.int .u16 (n : Nat), .int .u16 1] 46)) (some ⟨X.heap.size, 0, none⟩) 1 u16Cell [n, 1]) := by
              have HA := heap_alloc_last X (.cells #[.int .u16 (n : Nat), .int .u16 1] 46)
              refine .inr ⟨X.heap.size, 0, rfl, ?_⟩
              intro i x hx j u hu
              match i, hx with
              | 0, hx =>
                cases hx
                match j, hu with
                | 0, hu => cases hu; exact row_cell HA 0 _ rfl
              | 1, hx =>
                cases hx
                match j, hu with
                | 0, hu => cases hu; exact row_cell HA 1 _ rfl
            have tL := fun w1 h h2 h3 => Lib.hid (tw_list b1 b2 (some ⟨X.heap.size, 0, none⟩) 2 [n, 1] (by simp) (by unfold maxLen; omega) (by simp) (by intro x hx; simp at hx; rcases hx with rfl | rfl <;> omega) w1 h h2 h3)
            have tS := fun w1 h h2 => Lib.hid (tw_readlist b1 b2 (B (Oct.be 2 4 ++ flatW [n, 1])) (by rw [B_size, List.length_append, Oct.be_length, flatW_len]; simp) [n, 1] rfl (twSt n) (tw_num n) (tw_steps n hn) (twSt_size n) rfl w1 h h2)
            simp only [List.length_cons, List.length_nil, Nat.zero_add, Nat.reduceAdd] at tL tS
            have e2 : ((2 : Nat) : Int) = 2 := rfl
            generalize B (Oct.be 2 4 ++ flatW [n, 1]) = u4 at *
            have HXA : Hid (Gr X (X.alloc (.cells #[.int .u16 (n : Nat), .int .u16 1] 46))) := (Gr.refl X).alloc _
            go_region_held3 (fun w' => w'.cell? ⟨gc, 0, none⟩ = some (.func (.func 73) #[] #[.pointer (some ⟨b1, 0, none⟩)]) ∧ w'.cell? ⟨gc, 1, none⟩ = some (.func (.func 75) #[] #[.pointer (some ⟨b2, 0, none⟩)])) (first | exact ⟨hq0, hq1⟩ | exact HQ.out | (exact ⟨HXA.out.drew.cells hq0, HXA.out.drew.cells hq1⟩) | assumption)
              (first
                | (go_at_call 27; refine (tL _ (HXA.out.drew.cells HU2.out.2.1.1) (HXA.out.drew.cells HU2.out.2.1.2) (HSL.out.gr (Gr.refl _).drew)).out.mono ?_; clear tL; rintro r v3 ⟨rfl, hg⟩; have HV3 : Hid (Gr X v3) := HXA.out.drew.trans hg; have HQ := Lib.hid (And.intro (HV3.out.cells hq0) (HV3.out.cells hq1)); clear hg)
                | (go_at_call 26; refine (tS _ (HV3.out.cells HU2.out.2.1.1) (HV3.out.cells HU2.out.2.1.2)).out.mono ?_; clear tS; rintro r v4 ⟨A, cap, rfl, hown, hg⟩; have HV4 : Hid (Gr X v4 ∧ SliceAt v4 A 1 u16Cell [n, 1] ∧ 2 ≤ cap) := ⟨HV3.out.trans hg, hown.slice (fun _ => rfl), hown.cap_le.1⟩; have HQ := Lib.hid (And.intro (HV4.out.1.cells hq0) (HV4.out.1.cells hq1)); clear hg hown))
            obtain ⟨⟨⟨y0, y1, y2, y3, y4⟩, ey⟩, hE3⟩ : ∃ z, rdEndme ⟨#[113]⟩ 1 s = z := ⟨_, rfl⟩
            have hbd := me_bounds hE3
            have HBK : Hid (ey = 0 → B (Oct.be 1 1) ++ meBytes y2 y3 y4 = s) := by
              intro h; subst h; exact me_back hE3
            have oA := fun w1 => Lib.hid (me_mk ⟨#[113]⟩ 1 w1)
            have oD := fun v w1 h => Lib.hid (me_read s hs ⟨#[113]⟩ 1 v w1 h hE3)
            have oB := fun w1 => Lib.hid (me_mk ⟨#[]⟩ 0 w1)
            have oC := fun v w1 h => Lib.hid (me_bytes y0 y1 y2 y3 y4 hbd.1 hbd.2.1 (by omega) v ⟨#[]⟩ 0 w1 h)
            clear hE3
            have e1 : ((1 : Nat) : Int) = 1 := rfl
            simp only [e1, e00] at oA oB
            rcases HV4.out.2.1 with h0 | ⟨la, lo, rfl, hla⟩
            · cases h0
            have hl0 := hla 0 _ rfl 0 _ rfl
            simp only [Nat.zero_mul, Nat.add_zero] at hl0
            have hcap := HV4.out.2.2
            have HV4b : Hid (Gr w v4) := HU2.out.1.trans HV4.out.1
            clear HV4 hla HU2 HSL HXA hq0 hq1 HV3
            generalize v4 = Y at *
            go_wp2_with (first
              | (go_at_call 13; (with_reducible show Calls _ _ #[.string ⟨#[113]⟩, _] _ _); refine (oA _).out.mono ?_; clear oA; rintro r v5 ⟨cv5, rfl, hf, hg⟩; have HF5 := Lib.hid hf; have HV5 : Hid (Gr Y v5) := hg; clear hf hg)
              | (go_at_call 20; refine (oD _ _ HF5.out).out.mono ?_; clear oD HF5; rintro r v6 ⟨rfl, hg⟩; have HV6 : Hid (Gr Y v6) := HV5.out.trans hg; clear hg))
            have HW6 : Hid (Gr w (v6.alloc (.cells #[.string y0, .int .u64 (y1 : Nat), .int .u32 (y2 : Nat), .int .u64 (y3 : Nat), .string y4] 27)) ∧ (v6.alloc (.cells #[.string y0, .int .u64 (y1 : Nat), .int .u32 (y2 : Nat), .int .u64 (y3 : Nat), .string y4] 27)).cell? ⟨la, lo, none⟩ = some (.int .u16 (n : Nat)) ∧ (v6.alloc (.cells #[.string y0, .int .u64 (y1 : Nat), .int .u32 (y2 : Nat), .int .u64 (y3 : Nat), .string y4] 27)).heap[v6.heap.size]? = some (.cells #[.string y0, .int .u64 (y1 : Nat), .int .u32 (y2 : Nat), .int .u64 (y3 : Nat), .string y4] 27 (0, 0))) := ⟨(HV4b.out.trans HV6.out).alloc _, ((Gr.refl v6).alloc _).cells (HV6.out.cells hl0), heap_alloc_last _ _⟩
            clear HV6 HV5 HV4b hl0
            generalize v6.alloc (.cells #[.string y0, .int .u64 (y1 : Nat), .int .u32 (y2 : Nat), .int .u64 (y3 : Nat), .string y4] 27) = Z at *
            generalize v6.heap.size = gy at *
            have r0 := HW6.out.2.1
            have ry0 : Z.cell? ⟨gy, 0, none⟩ = some (.string y0) := row_cell HW6.out.2.2 0 _ rfl
            have ry1 : Z.cell? ⟨gy, 1, none⟩ = some (.int .u64 (y1 : Nat)) := row_cell HW6.out.2.2 1 _ rfl
            have ry2 : Z.cell? ⟨gy, 2, none⟩ = some (.int .u32 (y2 : Nat)) := row_cell HW6.out.2.2 2 _ rfl
            have ry3 : Z.cell? ⟨gy, 3, none⟩ = some (.int .u64 (y3 : Nat)) := row_cell HW6.out.2.2 3 _ rfl
            have ry4 : Z.cell? ⟨gy, 4, none⟩ = some (.string y4) := row_cell HW6.out.2.2 4 _ rfl
            by_cases hey : ey = 0
            · subst hey
              have hbk := HBK.out rfl
              rw [hbk] at oC
              clear HBK hbk
              go_region_held3 (fun w' => w'.cell? ⟨la, lo, none⟩ = some (.int .u16 (n : Nat)) ∧ w'.cell? ⟨gy, 0, none⟩ = some (.string y0) ∧ w'.cell? ⟨gy, 1, none⟩ = some (.int .u64 (y1 : Nat)) ∧ w'.cell? ⟨gy, 2, none⟩ = some (.int .u32 (y2 : Nat)) ∧ w'.cell? ⟨gy, 3, none⟩ = some (.int .u64 (y3 : Nat)) ∧ w'.cell? ⟨gy, 4, none⟩ = some (.string y4)) (first | exact ⟨r0, ry0, ry1, ry2, ry3, ry4⟩ | exact HQ.out | assumption)
                (first
                  | (go_at_call 13; refine (oB _).out.mono ?_; clear oB; rintro r v7 ⟨cv7, rfl, hf, hg⟩; have HF7 := Lib.hid hf; have HV7 : Hid (Gr Z v7) := (Gr.refl Z).drew.trans hg; have HQ := Lib.hid (And.intro (HV7.out.cells r0) (And.intro (HV7.out.cells ry0) (And.intro (HV7.out.cells ry1) (And.intro (HV7.out.cells ry2) (And.intro (HV7.out.cells ry3) (HV7.out.cells ry4)))))); clear hf hg)
                  | (go_at_call 14; refine (oC _ _ HF7.out).out.mono ?_; clear oC; rintro r v8 ⟨rfl, hg⟩; have HV8 : Hid (Gr Z v8) := HV7.out.trans hg; have HQ := Lib.hid (And.intro (HV8.out.cells r0) (And.intro (HV8.out.cells ry0) (And.intro (HV8.out.cells ry1) (And.intro (HV8.out.cells ry2) (And.intro (HV8.out.cells ry3) (HV8.out.cells ry4)))))); clear hg))
              try go_wp2
              go_ret
              exact ⟨rfl, HW6.out.1.trans HV8.out⟩
            · have hey2 : (ey != 0) = true := by simp [hey]
              clear HBK oB oC hey
              first
                | go_quiet (fail)
                | go_region
              try go_wp2
              go_ret
              exact ⟨rfl, HW6.out.1.drewN _⟩
end Go.Proofs.Ytncbbaieoehbjaa
