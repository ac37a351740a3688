/- The law RecordWrites, walked. -/
import Derived.Test.YtncbbaieoehbjaaRecQuC
import Derived.Test.YtncbbaieoehbjaaRecMeC
import Derived.Test.YtncbbaieoehbjaaRecCtR
namespace Go.Proofs.Ytncbbaieoehbjaa
open Go.RowKit
set_option linter.unusedVariables false
set_option linter.unusedSimpArgs false
set_option maxRecDepth 100000
set_option maxHeartbeats 4000000
theorem walk_RecordWrites_ (nm : ByteArray) (most ttl tries : Nat) (dead : ByteArray) (h1 : most < 4294967296) (h2 : U64 ttl) (h3 : tries < 4294967296) (h4 : dead.size ≤ maxLen)
    (mq : ByteArray) (id mtr mttl : Nat) (body : ByteArray) (k2 : mtr < 4294967296) (k3 : U64 mttl) (k4 : body.size ≤ maxLen) (n : Nat) (hn : U64 n) (w : World) :
    Calls Try.prog 3 #[.agg #[.string nm, .int .u32 (most : Nat), .int .u64 (ttl : Nat), .int .u32 (tries : Nat), .string dead], .agg #[.string mq, .int .u64 (id : Nat), .int .u32 (mtr : Nat), .int .u64 (mttl : Nat), .string body], .int .u64 (n : Nat)] w fun e w' => e = .returned (.bool true) ∧ Gr w w' := by
  have hm1 := h4
  have hm2 := k4
  unfold maxLen at hm1 hm2
  have hw0 := heap_alloc_last w (.cells #[.string nm, .int .u32 (most : Nat), .int .u64 (ttl : Nat), .int .u32 (tries : Nat), .string dead] 25)
  have hw1 := heap_alloc_last (w.alloc (.cells #[.string nm, .int .u32 (most : Nat), .int .u64 (ttl : Nat), .int .u32 (tries : Nat), .string dead] 25)) (.cells #[.string mq, .int .u64 (id : Nat), .int .u32 (mtr : Nat), .int .u64 (mttl : Nat), .string body] 27)
  have hw2 := ((Gr.refl (w.alloc (.cells #[.string nm, .int .u32 (most : Nat), .int .u64 (ttl : Nat), .int .u32 (tries : Nat), .string dead] 25))).alloc (.cells #[.string mq, .int .u64 (id : Nat), .int .u32 (mtr : Nat), .int .u64 (mttl : Nat), .string body] 27) |>.block (k := w.heap.size) (by rw [alloc_size]; omega)).trans hw0
  rw [alloc_size] at hw1
  have HW : Hid (Gr w ((w.alloc (.cells #[.string nm, .int .u32 (most : Nat), .int .u64 (ttl : Nat), .int .u32 (tries : Nat), .string dead] 25)).alloc (.cells #[.string mq, .int .u64 (id : Nat), .int .u32 (mtr : Nat), .int .u64 (mttl : Nat), .string body] 27))) := ((Gr.refl w).alloc _).alloc _
  clear hw0
  by_cases hbig : (3000 : Int) < max (dead.size : Int) (body.size : Int)
  · have hbig2 : (3000 : Int) < (if (dead.size : Int) < (body.size : Int) then (body.size : Int) else (dead.size : Int)) := by split <;> omega
    have HB := Lib.hid hw1
    have HQ := Lib.hid hw2
    clear hw1 hw2
    go_enter Try.func3, Try.ntmps3
    go_wp2_with (go_at_call 9; refine (law19_awake _).mono ?_; rintro r v1 ⟨rfl, hg⟩; have HV0 : Hid (Gr w v1) := HW.out.trans hg; have c1 : v1.cell? ⟨w.heap.size, 4, none⟩ = some (.string dead) := hg.cells (by rw [cell_of_row _ _ 4 _ _ _ HQ.out]; rfl); have c2 : v1.cell? ⟨w.heap.size + 1, 4, none⟩ = some (.string body) := hg.cells (by rw [cell_of_row _ _ 4 _ _ _ HB.out]; rfl))
    all_goals go_ret
    all_goals exact ⟨rfl, HV0.out⟩
  · have hd : dead.size ≤ 3000 := by omega
    have hb : body.size ≤ 3000 := by omega
    have hbig2 : ¬ (3000 : Int) < (if (dead.size : Int) < (body.size : Int) then (body.size : Int) else (dead.size : Int)) := by split <;> omega
    have z0 := B_be_size 1 1
    have z1 := B_be_size n 8
    have c0 := fun w1 => Lib.hid (qu_mk (⟨#[120]⟩) w1)
    have c1 := fun v w1 h => Lib.hid (qu_bytes nm most ttl tries dead h1 h2 h3 (by omega) v ⟨#[120]⟩ w1 h)
    have c2 := fun w1 => Lib.hid (qu_ref nm most ttl tries dead h1 h2 h3 (by omega) w1)
    have c3 := fun w1 => Lib.hid (me_mk (⟨#[121]⟩) 1 w1)
    have c4 := fun v w1 h => Lib.hid (me_bytes mq id mtr mttl body k2 k3 (by omega) v ⟨#[121]⟩ 1 w1 h)
    have c5 := fun w1 => Lib.hid (me_ref mq id mtr mttl body k2 k3 (by omega) w1)
    have c6 := fun w1 => Lib.hid (ct_mk w1)
    have c7 := fun v w1 h => Lib.hid (ct_bytes n hn v w1 h)
    have c8 := fun w1 => Lib.hid (ref_big 1 (by unfold U64; omega) 1 (by omega) w1)
    have c9 := fun w1 => Lib.hid (ref_big n hn 8 (by omega) w1)
    have e0 : ((1 : Nat) : Int) = 1 := rfl
    simp only [e0] at c3 c8
    generalize B (Oct.be 1 1) ++ quBytes most ttl tries dead = u1 at *
    generalize B (Oct.be 1 1) ++ meBytes mtr mttl body = u2 at *
    have HSZ : Hid ((B (Oct.be 1 1) ++ B (Oct.be n 8)).size = 9) := by unfold Hid; rw [ByteArray.size_append, z0, z1]
    generalize B (Oct.be 1 1) = u3 at *
    generalize B (Oct.be n 8) = u4 at *
    have HB := Lib.hid hw1
    have HQ0 := Lib.hid hw2
    clear hw1 hw2
    go_enter Try.func3, Try.ntmps3
    go_wp2_with (go_at_call 9; refine (law19_awake _).mono ?_; rintro r v1 ⟨rfl, hg⟩; have HV0 : Hid (Gr w v1) := HW.out.trans hg; have HX := Lib.hid (And.intro ((hg.block (k := w.heap.size) (by simp only [alloc_size] <;> omega)).trans HQ0.out) ((hg.block (k := w.heap.size + 1) (by simp only [alloc_size] <;> omega)).trans HB.out)); clear hg; have x4 : v1.cell? ⟨w.heap.size, 4, none⟩ = some (.string dead) := (by rw [cell_of_row _ _ 4 _ _ _ HX.out.1] <;> rfl); have x9 : v1.cell? ⟨w.heap.size + 1, 4, none⟩ = some (.string body) := (by rw [cell_of_row _ _ 4 _ _ _ HX.out.2] <;> rfl))
    all_goals
      clear x4 x9 HB HQ0
      generalize w.heap.size + 1 = g1 at *
      generalize w.heap.size = g0 at *
      generalize v1 = V at *
      have x0 : V.cell? ⟨g0, 0, none⟩ = some (.string nm) := by rw [cell_of_row _ _ 0 _ _ _ HX.out.1]; rfl
      have x1 : V.cell? ⟨g0, 1, none⟩ = some (.int .u32 (most : Nat)) := by rw [cell_of_row _ _ 1 _ _ _ HX.out.1]; rfl
      have x2 : V.cell? ⟨g0, 2, none⟩ = some (.int .u64 (ttl : Nat)) := by rw [cell_of_row _ _ 2 _ _ _ HX.out.1]; rfl
      have x3 : V.cell? ⟨g0, 3, none⟩ = some (.int .u32 (tries : Nat)) := by rw [cell_of_row _ _ 3 _ _ _ HX.out.1]; rfl
      have x4 : V.cell? ⟨g0, 4, none⟩ = some (.string dead) := by rw [cell_of_row _ _ 4 _ _ _ HX.out.1]; rfl
      have x5 : V.cell? ⟨g1, 0, none⟩ = some (.string mq) := by rw [cell_of_row _ _ 0 _ _ _ HX.out.2]; rfl
      have x6 : V.cell? ⟨g1, 1, none⟩ = some (.int .u64 (id : Nat)) := by rw [cell_of_row _ _ 1 _ _ _ HX.out.2]; rfl
      have x7 : V.cell? ⟨g1, 2, none⟩ = some (.int .u32 (mtr : Nat)) := by rw [cell_of_row _ _ 2 _ _ _ HX.out.2]; rfl
      have x8 : V.cell? ⟨g1, 3, none⟩ = some (.int .u64 (mttl : Nat)) := by rw [cell_of_row _ _ 3 _ _ _ HX.out.2]; rfl
      have x9 : V.cell? ⟨g1, 4, none⟩ = some (.string body) := by rw [cell_of_row _ _ 4 _ _ _ HX.out.2]; rfl
      clear HX
      go_region_held3 (fun w' => w'.cell? ⟨g0, 0, none⟩ = some (.string nm) ∧ w'.cell? ⟨g0, 1, none⟩ = some (.int .u32 (most : Nat)) ∧ w'.cell? ⟨g0, 2, none⟩ = some (.int .u64 (ttl : Nat)) ∧ w'.cell? ⟨g0, 3, none⟩ = some (.int .u32 (tries : Nat)) ∧ w'.cell? ⟨g0, 4, none⟩ = some (.string dead) ∧ w'.cell? ⟨g1, 0, none⟩ = some (.string mq) ∧ w'.cell? ⟨g1, 1, none⟩ = some (.int .u64 (id : Nat)) ∧ w'.cell? ⟨g1, 2, none⟩ = some (.int .u32 (mtr : Nat)) ∧ w'.cell? ⟨g1, 3, none⟩ = some (.int .u64 (mttl : Nat)) ∧ w'.cell? ⟨g1, 4, none⟩ = some (.string body)) (first | exact ⟨x0, x1, x2, x3, x4, x5, x6, x7, x8, x9⟩ | exact HQ.out | assumption)
        (first
          | (go_at_call 10; refine (c0 _).out.mono ?_; rintro r v2 ⟨cv0, rfl, hf0, hg⟩; have HV1 : Hid (Gr V v2) := (Gr.refl V).drew.trans hg; have HQ := Lib.hid (And.intro (HV1.out.cells x0) (And.intro (HV1.out.cells x1) (And.intro (HV1.out.cells x2) (And.intro (HV1.out.cells x3) (And.intro (HV1.out.cells x4) (And.intro (HV1.out.cells x5) (And.intro (HV1.out.cells x6) (And.intro (HV1.out.cells x7) (And.intro (HV1.out.cells x8) (HV1.out.cells x9)))))))))); clear hg; have HF0 := Lib.hid hf0; clear hf0)
          | (go_at_call 11; refine (c1 _ _ HF0.out).out.mono ?_; rintro r v3 ⟨rfl, hg⟩; have HV2 : Hid (Gr V v3) := HV1.out.trans hg; have HQ := Lib.hid (And.intro (HV2.out.cells x0) (And.intro (HV2.out.cells x1) (And.intro (HV2.out.cells x2) (And.intro (HV2.out.cells x3) (And.intro (HV2.out.cells x4) (And.intro (HV2.out.cells x5) (And.intro (HV2.out.cells x6) (And.intro (HV2.out.cells x7) (And.intro (HV2.out.cells x8) (HV2.out.cells x9)))))))))); clear hg)
          | (go_at_call 12; refine (c2 _).out.mono ?_; rintro r v4 ⟨rfl, hg⟩; have HV3 : Hid (Gr V v4) := HV2.out.trans hg; have HQ := Lib.hid (And.intro (HV3.out.cells x0) (And.intro (HV3.out.cells x1) (And.intro (HV3.out.cells x2) (And.intro (HV3.out.cells x3) (And.intro (HV3.out.cells x4) (And.intro (HV3.out.cells x5) (And.intro (HV3.out.cells x6) (And.intro (HV3.out.cells x7) (And.intro (HV3.out.cells x8) (HV3.out.cells x9)))))))))); clear hg)
          | (go_at_call 13; refine (c3 _).out.mono ?_; rintro r v5 ⟨cv1, rfl, hf1, hg⟩; have HV4 : Hid (Gr V v5) := HV3.out.trans hg; have HQ := Lib.hid (And.intro (HV4.out.cells x0) (And.intro (HV4.out.cells x1) (And.intro (HV4.out.cells x2) (And.intro (HV4.out.cells x3) (And.intro (HV4.out.cells x4) (And.intro (HV4.out.cells x5) (And.intro (HV4.out.cells x6) (And.intro (HV4.out.cells x7) (And.intro (HV4.out.cells x8) (HV4.out.cells x9)))))))))); clear hg; have HF1 := Lib.hid hf1; clear hf1)
          | (go_at_call 14; refine (c4 _ _ HF1.out).out.mono ?_; rintro r v6 ⟨rfl, hg⟩; have HV5 : Hid (Gr V v6) := HV4.out.trans hg; have HQ := Lib.hid (And.intro (HV5.out.cells x0) (And.intro (HV5.out.cells x1) (And.intro (HV5.out.cells x2) (And.intro (HV5.out.cells x3) (And.intro (HV5.out.cells x4) (And.intro (HV5.out.cells x5) (And.intro (HV5.out.cells x6) (And.intro (HV5.out.cells x7) (And.intro (HV5.out.cells x8) (HV5.out.cells x9)))))))))); clear hg)
          | (go_at_call 15; refine (c5 _).out.mono ?_; rintro r v7 ⟨rfl, hg⟩; have HV6 : Hid (Gr V v7) := HV5.out.trans hg; have HQ := Lib.hid (And.intro (HV6.out.cells x0) (And.intro (HV6.out.cells x1) (And.intro (HV6.out.cells x2) (And.intro (HV6.out.cells x3) (And.intro (HV6.out.cells x4) (And.intro (HV6.out.cells x5) (And.intro (HV6.out.cells x6) (And.intro (HV6.out.cells x7) (And.intro (HV6.out.cells x8) (HV6.out.cells x9)))))))))); clear hg)
          | (go_at_call 16; refine (c6 _).out.mono ?_; rintro r v8 ⟨cv2, rfl, hf2, hg⟩; have HV7 : Hid (Gr V v8) := HV6.out.trans hg; have HQ := Lib.hid (And.intro (HV7.out.cells x0) (And.intro (HV7.out.cells x1) (And.intro (HV7.out.cells x2) (And.intro (HV7.out.cells x3) (And.intro (HV7.out.cells x4) (And.intro (HV7.out.cells x5) (And.intro (HV7.out.cells x6) (And.intro (HV7.out.cells x7) (And.intro (HV7.out.cells x8) (HV7.out.cells x9)))))))))); clear hg; have HF2 := Lib.hid hf2; clear hf2)
          | (go_at_call 17; refine (c7 _ _ HF2.out).out.mono ?_; rintro r v9 ⟨rfl, hg⟩; have HV8 : Hid (Gr V v9) := HV7.out.trans hg; have HQ := Lib.hid (And.intro (HV8.out.cells x0) (And.intro (HV8.out.cells x1) (And.intro (HV8.out.cells x2) (And.intro (HV8.out.cells x3) (And.intro (HV8.out.cells x4) (And.intro (HV8.out.cells x5) (And.intro (HV8.out.cells x6) (And.intro (HV8.out.cells x7) (And.intro (HV8.out.cells x8) (HV8.out.cells x9)))))))))); clear hg)
          | (go_at_call 18; (with_reducible show Calls _ _ #[.int .u64 1, _] _ _); refine (c8 _).out.mono ?_; rintro r v10 ⟨rfl, hg⟩; have HV9 : Hid (Gr V v10) := HV8.out.trans hg; have HQ := Lib.hid (And.intro (HV9.out.cells x0) (And.intro (HV9.out.cells x1) (And.intro (HV9.out.cells x2) (And.intro (HV9.out.cells x3) (And.intro (HV9.out.cells x4) (And.intro (HV9.out.cells x5) (And.intro (HV9.out.cells x6) (And.intro (HV9.out.cells x7) (And.intro (HV9.out.cells x8) (HV9.out.cells x9)))))))))); clear hg)
          | (go_at_call 18; (with_reducible show Calls _ _ #[.int .u64 (n : Nat), _] _ _); refine (c9 _).out.mono ?_; rintro r v11 ⟨rfl, hg⟩; have HV10 : Hid (Gr V v11) := HV9.out.trans hg; have HQ := Lib.hid (And.intro (HV10.out.cells x0) (And.intro (HV10.out.cells x1) (And.intro (HV10.out.cells x2) (And.intro (HV10.out.cells x3) (And.intro (HV10.out.cells x4) (And.intro (HV10.out.cells x5) (And.intro (HV10.out.cells x6) (And.intro (HV10.out.cells x7) (And.intro (HV10.out.cells x8) (HV10.out.cells x9)))))))))); clear hg))
      all_goals (try go_wp2)
      all_goals go_ret
      all_goals exact ⟨rfl, HV0.out.trans HV10.out⟩
end Go.Proofs.Ytncbbaieoehbjaa
