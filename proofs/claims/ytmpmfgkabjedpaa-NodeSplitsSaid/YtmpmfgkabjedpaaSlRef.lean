/- Layer 6: a cell's bytes, by the document. -/
import Derived.Test.YtmpmfgkabjedpaaSl3L
import Derived.Test.YtmpmfgkabjedpaaSl3K
import Derived.Test.YtmpmfgkabjedpaaOctBig
import Derived.BigQuiet
namespace Go.Proofs.Ytmpmfgkabjedpaa
open Go.RowKit
set_option linter.unusedVariables false
set_option linter.unusedSimpArgs false
set_option maxRecDepth 100000
set_option maxHeartbeats 4000000
/-- a cell's bytes: a leaf's, a branch's (its page is Chain) -/
def rcB (leaf : Bool) (x : Ce) : ByteArray := if leaf then ceBytes x else kiBytes x.1 x.2.2.1
theorem rf_cell (k v : ByteArray) (c l : Nat) (hk : k.size ≤ 60000) (hv : v.size ≤ 60000) (hc : c < 4294967296) (hl : l < 4294967296) (leaf : Bool) (w : World) :
    Calls Try.prog 80 #[.agg #[.string k, .string v, .int .u32 (c : Nat), .int .u32 (l : Nat)], .bool leaf] w fun r w' => r = .returned (.string (rcB leaf (k, v, c, l))) ∧ Gr w w' := by
  have hzv : clipB v 65535 = v := clipB_all v 65535 (by omega)
  obtain ⟨ck, hck, hks, hcase⟩ : ∃ ck : ByteArray, keyBytes k = B (Oct.be ck.size 1) ++ ck ∧ ck.size ≤ 255 ∧ ((k.size ≤ 255 ∧ ck = k) ∨ (255 < k.size ∧ k.extract 0 255 = ck)) := by
    refine ⟨clipB k 255, rfl, by rw [clipB_size]; omega, ?_⟩
    by_cases h : k.size ≤ 255
    · exact .inl ⟨h, clipB_all k 255 h⟩
    · exact .inr ⟨by omega, by unfold clipB; rw [Nat.min_eq_right (by omega)]⟩
  have HRC : Hid (rcB leaf (k, v, c, l) = if leaf then (if c ≠ 0 then B (Oct.be ck.size 1) ++ ck ++ B (Oct.be 1 1) ++ B (Oct.be c 4) ++ B (Oct.be l 4) else B (Oct.be ck.size 1) ++ ck ++ B (Oct.be 0 1) ++ B (Oct.be v.size 2) ++ v) else B (Oct.be ck.size 1) ++ ck ++ B (Oct.be c 4)) := by
    unfold Hid rcB ceBytes kiBytes
    simp only [hck, hzv]
  clear hck hzv
  have hw0 := heap_alloc_last w (.cells #[.string k, .string v, .int .u32 (c : Nat), .int .u32 (l : Nat)] 59)
  have HW : Hid (Gr w (w.alloc (.cells #[.string k, .string v, .int .u32 (c : Nat), .int .u32 (l : Nat)] 59))) := (Gr.refl w).alloc _
  have cS := fun w1 => Lib.hid (ref_big ck.size (by unfold U64; omega) 1 (by omega) w1)
  have cC := fun w1 => Lib.hid (ref_big c (by unfold U64; omega) 4 (by omega) w1)
  have cL := fun w1 => Lib.hid (ref_big l (by unfold U64; omega) 4 (by omega) w1)
  have c1 := fun w1 => Lib.hid (ref_big 1 (by unfold U64; omega) 1 (by omega) w1)
  have c0 := fun w1 => Lib.hid (ref_big 0 (by unfold U64; omega) 1 (by omega) w1)
  have cV := fun w1 => Lib.hid (ref_big v.size (by unfold U64; omega) 2 (by omega) w1)
  have z1 := B_be_size ck.size 1
  have z2 := B_be_size c 4
  have z3 := B_be_size l 4
  have z4 := B_be_size 1 1
  have z5 := B_be_size 0 1
  have z6 := B_be_size v.size 2
  have e1 : ((1 : Nat) : Int) = 1 := rfl
  have e00 : ((0 : Nat) : Int) = 0 := rfl
  simp only [e1] at c1
  simp only [e00] at c0
  have wk : IntKind.u64.wrap ((ck.size : Nat) : Int) = ((ck.size : Nat) : Int) := wrap_u64_of _ (by unfold U64; omega)
  have wc : IntKind.u64.wrap (c : Int) = (c : Int) := wrap_u64_of _ (by unfold U64; omega)
  have wl : IntKind.u64.wrap (l : Int) = (l : Int) := wrap_u64_of _ (by unfold U64; omega)
  have wv : IntKind.u64.wrap ((v.size : Nat) : Int) = ((v.size : Nat) : Int) := wrap_u64_of _ (by unfold U64; omega)
  have hvn : ¬ (65535 : Int) < (v.size : Int) := by omega
  generalize B (Oct.be ck.size 1) = g1 at *
  generalize B (Oct.be c 4) = g2 at *
  generalize B (Oct.be l 4) = g3 at *
  generalize B (Oct.be 1 1) = g4 at *
  generalize B (Oct.be 0 1) = g5 at *
  generalize B (Oct.be v.size 2) = g6 at *
  have x0 := row_cell hw0 0 _ rfl
  have x1 := row_cell hw0 1 _ rfl
  have x2 := row_cell hw0 2 _ rfl
  have x3 := row_cell hw0 3 _ rfl
  clear hw0
  generalize rcB leaf (k, v, c, l) = q at *
  have y1 : ¬ (9223372036854775807 < 1 + ck.size) := by omega
  have y2 : ¬ (9223372036854775807 < 1 + ck.size + 4) := by omega
  have y3 : ¬ (9223372036854775807 < 1 + ck.size + 1) := by omega
  have y4 : ¬ (9223372036854775807 < 1 + ck.size + 1 + 4) := by omega
  have y5 : ¬ (9223372036854775807 < 1 + ck.size + 1 + 4 + 4) := by omega
  have y6 : ¬ (9223372036854775807 < 1 + ck.size + 1 + 2) := by omega
  have y7 : ¬ (9223372036854775807 < 1 + ck.size + 1 + 2 + v.size) := by omega
  rcases hcase with ⟨hkb, hck2⟩ | ⟨hkb, hext⟩
  · have hck3 := hck2.symm
    clear hck2
    subst hck3
    have hkn : ¬ (255 : Int) < (k.size : Int) := by omega
    cases leaf with
    | false =>
      have hq := HRC.out
      simp only [Bool.false_eq_true, if_false] at hq
      subst hq
      go_enter Try.func80, Try.ntmps80
      go_wp2
      generalize (w.alloc (.cells #[.string k, .string v, .int .u32 (c : Nat), .int .u32 (l : Nat)] 59)) = W at *
      go_quiet (fail)
      go_wp2_with (first
        | (go_at_call 95; (with_reducible show Calls _ _ #[.int .u64 (k.size : Nat), _] _ _); refine (cS _).out.mono ?_; clear cS; rintro r v1 ⟨rfl, hg⟩; have HV1 : Hid (Gr W v1) := (Gr.refl W).drewN _ |>.trans hg; clear hg; have x2b := HV1.out.cells x2; have x3b := HV1.out.cells x3)
        | (go_at_call 95; (with_reducible show Calls _ _ #[.int .u64 (c : Nat), _] _ _); refine (cC _).out.mono ?_; clear cC; rintro r v2 ⟨rfl, hg⟩; have HV2 : Hid (Gr W v2) := HV1.out.trans hg; clear hg))
      go_ret
      exact ⟨rfl, HW.out.trans HV2.out⟩
    | true =>
      have hq := HRC.out
      simp only [if_true] at hq
      by_cases h0 : c = 0
      · subst h0
        simp only [ne_eq, not_true_eq_false, if_false] at hq
        subst hq
        simp only [e00] at *
        go_enter Try.func80, Try.ntmps80
        go_wp2
        generalize (w.alloc (.cells #[.string k, .string v, .int .u32 0, .int .u32 (l : Nat)] 59)) = W at *
        go_quiet (fail)
        go_wp2_with (first
          | (go_at_call 95; (with_reducible show Calls _ _ #[.int .u64 (k.size : Nat), _] _ _); refine (cS _).out.mono ?_; clear cS; rintro r v1 ⟨rfl, hg⟩; have HV1 : Hid (Gr W v1) := (Gr.refl W).drewN _ |>.trans hg; clear hg; have x2b := HV1.out.cells x2)
          | (go_at_call 95; (with_reducible show Calls _ _ #[.int .u64 0, _] _ _); refine (c0 _).out.mono ?_; clear c0; rintro r v2 ⟨rfl, hg⟩; have HV2 : Hid (Gr W v2) := HV1.out.trans hg; clear hg)
          | (go_at_call 95; (with_reducible show Calls _ _ #[.int .u64 (v.size : Nat), _] _ _); refine (cV _).out.mono ?_; clear cV; rintro r v3 ⟨rfl, hg⟩; have HV3 : Hid (Gr W v3) := HV2.out.trans hg; clear hg))
        go_ret
        exact ⟨rfl, HW.out.trans HV3.out⟩
      · rw [if_pos h0] at hq
        subst hq
        have hne : ((c : Int) != 0) = true := by simp; omega
        go_enter Try.func80, Try.ntmps80
        go_wp2
        generalize (w.alloc (.cells #[.string k, .string v, .int .u32 (c : Nat), .int .u32 (l : Nat)] 59)) = W at *
        go_quiet (fail)
        go_wp2_with ((go_at_call 95; (with_reducible show Calls _ _ #[.int .u64 (k.size : Nat), _] _ _); refine (cS _).out.mono ?_; clear cS; rintro r v1 ⟨rfl, hg⟩; have HV1 : Hid (Gr W v1) := (Gr.refl W).drewN _ |>.trans hg; clear hg; have x2b := HV1.out.cells x2; have x3b := HV1.out.cells x3))
        go_region_held3 (fun w' => w'.cell? ⟨w.heap.size, 2, none⟩ = some (.int .u32 (c : Nat)) ∧ w'.cell? ⟨w.heap.size, 3, none⟩ = some (.int .u32 (l : Nat))) (first | exact ⟨x2b, x3b⟩ | exact HQ.out | assumption)
          (first
            | (go_at_call 95; (with_reducible show Calls _ _ #[.int .u64 1, _] _ _); refine (c1 _).out.mono ?_; clear c1; rintro r v2 ⟨rfl, hg⟩; have HV2 : Hid (Gr W v2) := HV1.out.drew.trans hg; clear hg; have HQ := Lib.hid (And.intro (HV2.out.cells x2) (HV2.out.cells x3)))
            | (go_at_call 95; (with_reducible show Calls _ _ #[.int .u64 (c : Nat), _] _ _); refine (cC _).out.mono ?_; clear cC; rintro r v3 ⟨rfl, hg⟩; have HV3 : Hid (Gr W v3) := HV2.out.trans hg; clear hg; have HQ := Lib.hid (And.intro (HV3.out.cells x2) (HV3.out.cells x3)))
            | (go_at_call 95; (with_reducible show Calls _ _ #[.int .u64 (l : Nat), _] _ _); refine (cL _).out.mono ?_; clear cL; rintro r v4 ⟨rfl, hg⟩; have HV4 : Hid (Gr W v4) := HV3.out.trans hg; clear hg; have HQ := Lib.hid (And.intro (HV4.out.cells x2) (HV4.out.cells x3))))
        go_wp2
        go_ret
        exact ⟨rfl, HW.out.trans HV4.out⟩
  · have hkn : (255 : Int) < (k.size : Int) := by omega
    have hkn2 : (255 : Int) ≤ (k.size : Int) := by omega
    cases leaf with
    | false =>
      have hq := HRC.out
      simp only [Bool.false_eq_true, if_false] at hq
      subst hq
      go_enter Try.func80, Try.ntmps80
      go_wp2
      generalize (w.alloc (.cells #[.string k, .string v, .int .u32 (c : Nat), .int .u32 (l : Nat)] 59)) = W at *
      go_quiet (fail)
      go_wp2_with (first
        | (go_at_call 95; (with_reducible show Calls _ _ #[.int .u64 (ck.size : Nat), _] _ _); refine (cS _).out.mono ?_; clear cS; rintro r v1 ⟨rfl, hg⟩; have HV1 : Hid (Gr W v1) := (Gr.refl W).drewN _ |>.trans hg; clear hg; have x2b := HV1.out.cells x2; have x3b := HV1.out.cells x3)
        | (go_at_call 95; (with_reducible show Calls _ _ #[.int .u64 (c : Nat), _] _ _); refine (cC _).out.mono ?_; clear cC; rintro r v2 ⟨rfl, hg⟩; have HV2 : Hid (Gr W v2) := HV1.out.trans hg; clear hg))
      go_ret
      exact ⟨rfl, HW.out.trans HV2.out⟩
    | true =>
      have hq := HRC.out
      simp only [if_true] at hq
      by_cases h0 : c = 0
      · subst h0
        simp only [ne_eq, not_true_eq_false, if_false] at hq
        subst hq
        simp only [e00] at *
        go_enter Try.func80, Try.ntmps80
        go_wp2
        generalize (w.alloc (.cells #[.string k, .string v, .int .u32 0, .int .u32 (l : Nat)] 59)) = W at *
        go_quiet (fail)
        go_wp2_with (first
          | (go_at_call 95; (with_reducible show Calls _ _ #[.int .u64 (ck.size : Nat), _] _ _); refine (cS _).out.mono ?_; clear cS; rintro r v1 ⟨rfl, hg⟩; have HV1 : Hid (Gr W v1) := (Gr.refl W).drewN _ |>.trans hg; clear hg; have x2b := HV1.out.cells x2)
          | (go_at_call 95; (with_reducible show Calls _ _ #[.int .u64 0, _] _ _); refine (c0 _).out.mono ?_; clear c0; rintro r v2 ⟨rfl, hg⟩; have HV2 : Hid (Gr W v2) := HV1.out.trans hg; clear hg)
          | (go_at_call 95; (with_reducible show Calls _ _ #[.int .u64 (v.size : Nat), _] _ _); refine (cV _).out.mono ?_; clear cV; rintro r v3 ⟨rfl, hg⟩; have HV3 : Hid (Gr W v3) := HV2.out.trans hg; clear hg))
        go_ret
        exact ⟨rfl, HW.out.trans HV3.out⟩
      · rw [if_pos h0] at hq
        subst hq
        have hne : ((c : Int) != 0) = true := by simp; omega
        go_enter Try.func80, Try.ntmps80
        go_wp2
        generalize (w.alloc (.cells #[.string k, .string v, .int .u32 (c : Nat), .int .u32 (l : Nat)] 59)) = W at *
        go_quiet (fail)
        go_wp2_with ((go_at_call 95; (with_reducible show Calls _ _ #[.int .u64 (ck.size : Nat), _] _ _); refine (cS _).out.mono ?_; clear cS; rintro r v1 ⟨rfl, hg⟩; have HV1 : Hid (Gr W v1) := (Gr.refl W).drewN _ |>.trans hg; clear hg; have x2b := HV1.out.cells x2; have x3b := HV1.out.cells x3))
        go_region_held3 (fun w' => w'.cell? ⟨w.heap.size, 2, none⟩ = some (.int .u32 (c : Nat)) ∧ w'.cell? ⟨w.heap.size, 3, none⟩ = some (.int .u32 (l : Nat))) (first | exact ⟨x2b, x3b⟩ | exact HQ.out | assumption)
          (first
            | (go_at_call 95; (with_reducible show Calls _ _ #[.int .u64 1, _] _ _); refine (c1 _).out.mono ?_; clear c1; rintro r v2 ⟨rfl, hg⟩; have HV2 : Hid (Gr W v2) := HV1.out.drew.trans hg; clear hg; have HQ := Lib.hid (And.intro (HV2.out.cells x2) (HV2.out.cells x3)))
            | (go_at_call 95; (with_reducible show Calls _ _ #[.int .u64 (c : Nat), _] _ _); refine (cC _).out.mono ?_; clear cC; rintro r v3 ⟨rfl, hg⟩; have HV3 : Hid (Gr W v3) := HV2.out.trans hg; clear hg; have HQ := Lib.hid (And.intro (HV3.out.cells x2) (HV3.out.cells x3)))
            | (go_at_call 95; (with_reducible show Calls _ _ #[.int .u64 (l : Nat), _] _ _); refine (cL _).out.mono ?_; clear cL; rintro r v4 ⟨rfl, hg⟩; have HV4 : Hid (Gr W v4) := HV3.out.trans hg; clear hg; have HQ := Lib.hid (And.intro (HV4.out.cells x2) (HV4.out.cells x3))))
        go_wp2
        go_ret
        exact ⟨rfl, HW.out.trans HV4.out⟩
end Go.Proofs.Ytmpmfgkabjedpaa
