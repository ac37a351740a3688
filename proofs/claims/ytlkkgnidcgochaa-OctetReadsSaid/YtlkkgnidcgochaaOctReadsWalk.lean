/- The law OctetReads, walked. -/
import Derived.Test.YtlkkgnidcgochaaOctAwake
import Derived.Test.YtlkkgnidcgochaaOctRef
import Derived.Test.YtlkkgnidcgochaaSlices
namespace Go.Proofs.Ytlkkgnidcgochaa
open Go.RowKit
set_option linter.unusedVariables false
set_option linter.unusedSimpArgs false
set_option maxRecDepth 100000
def actCells (x : Int × Int) : List Value := [.int .i64 x.1, .int .i64 x.2]
/-- both readers stand alike -/
def Both (w0 w : World) (g1 g2 : Nat) (m : Nat) : Prop := ∃ s e, s.size ≤ m ∧ RdAt w g1 s e ∧ RdAt w g2 s e ∧ Gr w0 w ∧ w0.heap.size ≤ g1 ∧ w0.heap.size ≤ g2 ∧ g1 ≠ g2
set_option maxHeartbeats 40000000 in
theorem walk_OctetReads_ (s : ByteArray) (hs : s.size ≤ maxLen) (A : Option Addr) (cap : Nat) (xs : List (Int × Int)) (hcap : xs.length ≤ cap) (hcm : cap ≤ maxLen) (hgood : ∀ x ∈ xs, I64 x.2) (w : World) (hx : SliceAt w A 2 actCells xs) :
    Calls Try.prog 10 #[.string s, .slice A xs.length cap] w fun e w' => e = .returned (.bool true) ∧ Gr w w' := by
  have hm := hs
  unfold maxLen at hm hcm
  by_cases h1 : 2000 < s.size
  · go_enter Try.func10, Try.ntmps10
    go_wp2_with (go_at_call 21; refine (law03_awake _).mono ?_; rintro e w1 ⟨rfl, hb⟩)
    all_goals go_ret
    all_goals exact ⟨rfl, hb⟩
  · by_cases h2 : 50 < xs.length
    · go_enter Try.func10, Try.ntmps10
      go_wp2_with (go_at_call 21; refine (law03_awake _).mono ?_; rintro e w1 ⟨rfl, hb⟩)
      all_goals go_ret
      all_goals exact ⟨rfl, hb⟩
    · have HX := Lib.hid hx
      clear hx
      go_enter Try.func10, Try.ntmps10
      go_wp2_with (first
        | (go_at_call 21; refine (law03_awake _).mono ?_; rintro e w1 ⟨rfl, hb1⟩)
        | (go_at_call 29; refine (oct_over s _).mono ?_; rintro e w2 ⟨rfl, hr, hg⟩))
      have HB : Hid (Both w (w2.alloc (.cells #[.string s, .int .i64 0] 62)) w1.heap.size w2.heap.size s.size) :=
        ⟨s, 0, Nat.le_refl _, hr.gr ((Gr.refl _).alloc _), RdAt.new _ _ _ _, (hb1.trans hg).alloc _, hb1.size, (hb1.trans hg).size, by have := hr.lt; omega⟩
      clear hb1 hr hg
      generalize w1.heap.size = g1 at *
      generalize w2.heap.size = g2 at *
      generalize w2.alloc (.cells #[.string s, .int .i64 0] 62) = W at *
      go_loopw [27] (fun i wr => ∃ k : Nat, k ≤ xs.length ∧ i = .int .i64 k ∧ Hid (Both w wr g1 g2 s.size)) (fun i _ => xs.length - (intOf i).toNat)
      case atStart => exact ⟨0, by omega, rfl, HB⟩
      case round =>
        obtain ⟨k, hk, rfl, HR⟩ := hrel
        by_cases hlt : k < xs.length
        · obtain ⟨s', e', hsz, r1, r2, hg, hl1, hl2, hne⟩ := HR.out
          rcases HX.out with h0 | ⟨b, off, rfl, hcell⟩
          · subst h0; simp at hlt
          · have hgx := hgood xs[k] (List.getElem_mem hlt)
            have hc0 := hg.cells (hcell k xs[k] (List.getElem?_eq_getElem hlt) 0 _ rfl)
            have hc1 := hg.cells (hcell k xs[k] (List.getElem?_eq_getElem hlt) 1 _ rfl)
            simp only [Nat.add_zero] at hc0
            generalize xs[k] = x at *
            obtain ⟨d, n⟩ := x
            simp only at hc0 hc1 hgx
            have HS0 := Lib.hid (And.intro r1 (And.intro r2 (And.intro hg (And.intro hl1 (And.intro hl2 hne)))))
            have HK := Lib.hid hcell
            clear r1 r2 hg hl1 hl2 hne hcell hgood
            have hs' : s'.size ≤ maxLen := Nat.le_trans hsz hs
            go_wp2_with fail
            · generalize hga : wr.heap.size = ga at *
              have HW : Hid ((wr.alloc (.cells #[.int .i64 d, .int .i64 n] 64)).cell? ⟨ga, 1, none⟩ = some (.int .i64 n) ∧ Gr wr (wr.alloc (.cells #[.int .i64 d, .int .i64 n] 64)) ∧ ga ≠ g1 ∧ ga ≠ g2) := by
                subst hga
                have h := heap_alloc_last wr (.cells #[.int .i64 d, .int .i64 n] 64)
                exact ⟨by rw [cell_of_row _ _ 1 _ _ _ h]; rfl, (Gr.refl wr).alloc _, fun e => by have := HS0.out.1.lt; omega, fun e => by have := HS0.out.2.1.lt; omega⟩
              clear hga hc0 hc1
              generalize wr.alloc (.cells #[.int .i64 d, .int .i64 n] 64) = W1 at *
              have HS : Hid (RdAt W1 g1 s' e' ∧ RdAt W1 g2 s' e' ∧ Gr w W1 ∧ w.heap.size ≤ g1 ∧ w.heap.size ≤ g2 ∧ g1 ≠ g2) := ⟨HS0.out.1.gr HW.out.2.1, HS0.out.2.1.gr HW.out.2.1, HS0.out.2.2.1.trans HW.out.2.1, HS0.out.2.2.2⟩
              obtain ⟨n0, s2, e2, hq⟩ : ∃ a b c, rdNum s' e' 2 = (a, b, c) := ⟨_, _, _, rfl⟩
              have hlt2 := rdNum_lt s' e' 2
              have hsz2 := rdNum_size s' e' 2
              have c1 := oct_rdtwo g1 s' hs' e' W1 HS.out.1
              have c2 := fun v1 h => rref_num g2 s' hs' e' 2 (by omega) v1 h
              rw [hq] at c1 c2 hlt2 hsz2
              simp only at hsz2 hlt2
              have C1 := Lib.hid c1
              have C2 := Lib.hid c2
              clear c1 c2 hq
              have hcv : IntKind.u64.wrap (n0 : Int) = (n0 : Int) := wrap_u64_of n0 (by unfold U64; omega)
              clear hlt2
              refine C1.out.mono ?_
              rintro x v1 ⟨rfl, ra, ca⟩
              simp only []
              have R2 := Lib.hid (HS.out.2.1.ch ca (fun e => HS.out.2.2.2.2.2 e.symm))
              have RA := Lib.hid (And.intro ra ca)
              clear ra ca
              go_wp2_with (go_at_call 40; refine (C2.out _ R2.out).mono ?_; rintro x v2 ⟨rfl, rb, cb⟩)
              have HZ : Hid (RdAt v2 g1 s2 e2 ∧ RdAt v2 g2 s2 e2 ∧ s2.size ≤ s.size ∧ Gr w v2) := ⟨RA.out.1.ch cb HS.out.2.2.2.2.2, rb, Nat.le_trans hsz2 hsz, cb.gr (RA.out.2.gr HS.out.2.2.1 HS.out.2.2.2.1) HS.out.2.2.2.2.1⟩
              clear rb cb
              have q0 := HZ.out.2.1.s
              have q1 := HZ.out.2.1.e
              go_wp2
              go_quiet ((first
                | (go_at_call 38; exact Calls.quiet_of_same ((oct_left g1 s2 e2 _ (HZ.out.1.gr ((Gr.refl _).drewN _))).mono fun _ _ h => ⟨h.1, h.2.symm⟩))
                | (go_at_call 39; exact Calls.quiet_of_same ((oct_err g1 s2 e2 _ (HZ.out.1.gr ((Gr.refl _).drewN _))).mono fun _ _ h => ⟨h.1, h.2.symm⟩))))
              go_wp2
              go_roundw
              case rel => exact ⟨k + 1, by omega, by go_num, s2, e2, HZ.out.2.2.1, HZ.out.1.gr ((Gr.refl _).drewN _), HZ.out.2.1.gr ((Gr.refl _).drewN _), HZ.out.2.2.2.drewN _, HS.out.2.2.2.1, HS.out.2.2.2.2.1, HS.out.2.2.2.2.2⟩
              case measure => simp [intOf]; omega
            · generalize hga : wr.heap.size = ga at *
              have HW : Hid ((wr.alloc (.cells #[.int .i64 d, .int .i64 n] 64)).cell? ⟨ga, 1, none⟩ = some (.int .i64 n) ∧ Gr wr (wr.alloc (.cells #[.int .i64 d, .int .i64 n] 64)) ∧ ga ≠ g1 ∧ ga ≠ g2) := by
                subst hga
                have h := heap_alloc_last wr (.cells #[.int .i64 d, .int .i64 n] 64)
                exact ⟨by rw [cell_of_row _ _ 1 _ _ _ h]; rfl, (Gr.refl wr).alloc _, fun e => by have := HS0.out.1.lt; omega, fun e => by have := HS0.out.2.1.lt; omega⟩
              clear hga hc0 hc1
              generalize wr.alloc (.cells #[.int .i64 d, .int .i64 n] 64) = W1 at *
              have HS : Hid (RdAt W1 g1 s' e' ∧ RdAt W1 g2 s' e' ∧ Gr w W1 ∧ w.heap.size ≤ g1 ∧ w.heap.size ≤ g2 ∧ g1 ≠ g2) := ⟨HS0.out.1.gr HW.out.2.1, HS0.out.2.1.gr HW.out.2.1, HS0.out.2.2.1.trans HW.out.2.1, HS0.out.2.2.2⟩
              obtain ⟨n0, s2, e2, hq⟩ : ∃ a b c, rdNum s' e' 2 = (a, b, c) := ⟨_, _, _, rfl⟩
              have hlt2 := rdNum_lt s' e' 2
              have hsz2 := rdNum_size s' e' 2
              have c1 := oct_rdtwo g1 s' hs' e' W1 HS.out.1
              have c2 := fun v1 h => rref_num g2 s' hs' e' 2 (by omega) v1 h
              rw [hq] at c1 c2 hlt2 hsz2
              simp only at hsz2 hlt2
              have C1 := Lib.hid c1
              have C2 := Lib.hid c2
              clear c1 c2 hq
              have hcv : IntKind.u64.wrap (n0 : Int) = (n0 : Int) := wrap_u64_of n0 (by unfold U64; omega)
              clear hlt2
              refine C1.out.mono ?_
              rintro x v1 ⟨rfl, ra, ca⟩
              simp only []
              have R2 := Lib.hid (HS.out.2.1.ch ca (fun e => HS.out.2.2.2.2.2 e.symm))
              have RA := Lib.hid (And.intro ra ca)
              clear ra ca
              go_wp2_with (go_at_call 40; refine (C2.out _ R2.out).mono ?_; rintro x v2 ⟨rfl, rb, cb⟩)
              have HZ : Hid (RdAt v2 g1 s2 e2 ∧ RdAt v2 g2 s2 e2 ∧ s2.size ≤ s.size ∧ Gr w v2) := ⟨RA.out.1.ch cb HS.out.2.2.2.2.2, rb, Nat.le_trans hsz2 hsz, cb.gr (RA.out.2.gr HS.out.2.2.1 HS.out.2.2.2.1) HS.out.2.2.2.2.1⟩
              clear rb cb
              have q0 := HZ.out.2.1.s
              have q1 := HZ.out.2.1.e
              go_wp2
              go_quiet ((first
                | (go_at_call 38; exact Calls.quiet_of_same ((oct_left g1 s2 e2 _ (HZ.out.1.gr ((Gr.refl _).drewN _))).mono fun _ _ h => ⟨h.1, h.2.symm⟩))
                | (go_at_call 39; exact Calls.quiet_of_same ((oct_err g1 s2 e2 _ (HZ.out.1.gr ((Gr.refl _).drewN _))).mono fun _ _ h => ⟨h.1, h.2.symm⟩))))
              go_wp2
              go_roundw
              case rel => exact ⟨k + 1, by omega, by go_num, s2, e2, HZ.out.2.2.1, HZ.out.1.gr ((Gr.refl _).drewN _), HZ.out.2.1.gr ((Gr.refl _).drewN _), HZ.out.2.2.2.drewN _, HS.out.2.2.2.1, HS.out.2.2.2.2.1, HS.out.2.2.2.2.2⟩
              case measure => simp [intOf]; omega
            · generalize hga : wr.heap.size = ga at *
              have HW : Hid ((wr.alloc (.cells #[.int .i64 d, .int .i64 n] 64)).cell? ⟨ga, 1, none⟩ = some (.int .i64 n) ∧ Gr wr (wr.alloc (.cells #[.int .i64 d, .int .i64 n] 64)) ∧ ga ≠ g1 ∧ ga ≠ g2) := by
                subst hga
                have h := heap_alloc_last wr (.cells #[.int .i64 d, .int .i64 n] 64)
                exact ⟨by rw [cell_of_row _ _ 1 _ _ _ h]; rfl, (Gr.refl wr).alloc _, fun e => by have := HS0.out.1.lt; omega, fun e => by have := HS0.out.2.1.lt; omega⟩
              clear hga hc0 hc1
              generalize wr.alloc (.cells #[.int .i64 d, .int .i64 n] 64) = W1 at *
              have HS : Hid (RdAt W1 g1 s' e' ∧ RdAt W1 g2 s' e' ∧ Gr w W1 ∧ w.heap.size ≤ g1 ∧ w.heap.size ≤ g2 ∧ g1 ≠ g2) := ⟨HS0.out.1.gr HW.out.2.1, HS0.out.2.1.gr HW.out.2.1, HS0.out.2.2.1.trans HW.out.2.1, HS0.out.2.2.2⟩
              obtain ⟨n0, s2, e2, hq⟩ : ∃ a b c, rdNum s' e' 4 = (a, b, c) := ⟨_, _, _, rfl⟩
              have hlt2 := rdNum_lt s' e' 4
              have hsz2 := rdNum_size s' e' 4
              have c1 := oct_rdfour g1 s' hs' e' W1 HS.out.1
              have c2 := fun v1 h => rref_num g2 s' hs' e' 4 (by omega) v1 h
              rw [hq] at c1 c2 hlt2 hsz2
              simp only at hsz2 hlt2
              have C1 := Lib.hid c1
              have C2 := Lib.hid c2
              clear c1 c2 hq
              have hcv : IntKind.u64.wrap (n0 : Int) = (n0 : Int) := wrap_u64_of n0 (by unfold U64; omega)
              clear hlt2
              refine C1.out.mono ?_
              rintro x v1 ⟨rfl, ra, ca⟩
              simp only []
              have R2 := Lib.hid (HS.out.2.1.ch ca (fun e => HS.out.2.2.2.2.2 e.symm))
              have RA := Lib.hid (And.intro ra ca)
              clear ra ca
              go_wp2_with (go_at_call 40; refine (C2.out _ R2.out).mono ?_; rintro x v2 ⟨rfl, rb, cb⟩)
              have HZ : Hid (RdAt v2 g1 s2 e2 ∧ RdAt v2 g2 s2 e2 ∧ s2.size ≤ s.size ∧ Gr w v2) := ⟨RA.out.1.ch cb HS.out.2.2.2.2.2, rb, Nat.le_trans hsz2 hsz, cb.gr (RA.out.2.gr HS.out.2.2.1 HS.out.2.2.2.1) HS.out.2.2.2.2.1⟩
              clear rb cb
              have q0 := HZ.out.2.1.s
              have q1 := HZ.out.2.1.e
              go_wp2
              go_quiet ((first
                | (go_at_call 38; exact Calls.quiet_of_same ((oct_left g1 s2 e2 _ (HZ.out.1.gr ((Gr.refl _).drewN _))).mono fun _ _ h => ⟨h.1, h.2.symm⟩))
                | (go_at_call 39; exact Calls.quiet_of_same ((oct_err g1 s2 e2 _ (HZ.out.1.gr ((Gr.refl _).drewN _))).mono fun _ _ h => ⟨h.1, h.2.symm⟩))))
              go_wp2
              go_roundw
              case rel => exact ⟨k + 1, by omega, by go_num, s2, e2, HZ.out.2.2.1, HZ.out.1.gr ((Gr.refl _).drewN _), HZ.out.2.1.gr ((Gr.refl _).drewN _), HZ.out.2.2.2.drewN _, HS.out.2.2.2.1, HS.out.2.2.2.2.1, HS.out.2.2.2.2.2⟩
              case measure => simp [intOf]; omega
            · generalize hga : wr.heap.size = ga at *
              have HW : Hid ((wr.alloc (.cells #[.int .i64 d, .int .i64 n] 64)).cell? ⟨ga, 1, none⟩ = some (.int .i64 n) ∧ Gr wr (wr.alloc (.cells #[.int .i64 d, .int .i64 n] 64)) ∧ ga ≠ g1 ∧ ga ≠ g2) := by
                subst hga
                have h := heap_alloc_last wr (.cells #[.int .i64 d, .int .i64 n] 64)
                exact ⟨by rw [cell_of_row _ _ 1 _ _ _ h]; rfl, (Gr.refl wr).alloc _, fun e => by have := HS0.out.1.lt; omega, fun e => by have := HS0.out.2.1.lt; omega⟩
              clear hga hc0 hc1
              generalize wr.alloc (.cells #[.int .i64 d, .int .i64 n] 64) = W1 at *
              have HS : Hid (RdAt W1 g1 s' e' ∧ RdAt W1 g2 s' e' ∧ Gr w W1 ∧ w.heap.size ≤ g1 ∧ w.heap.size ≤ g2 ∧ g1 ≠ g2) := ⟨HS0.out.1.gr HW.out.2.1, HS0.out.2.1.gr HW.out.2.1, HS0.out.2.2.1.trans HW.out.2.1, HS0.out.2.2.2⟩
              obtain ⟨n0, s2, e2, hq⟩ : ∃ a b c, rdNum s' e' 4 = (a, b, c) := ⟨_, _, _, rfl⟩
              have hlt2 := rdNum_lt s' e' 4
              have hsz2 := rdNum_size s' e' 4
              have c1 := oct_rdfour g1 s' hs' e' W1 HS.out.1
              have c2 := fun v1 h => rref_num g2 s' hs' e' 4 (by omega) v1 h
              rw [hq] at c1 c2 hlt2 hsz2
              simp only at hsz2 hlt2
              have C1 := Lib.hid c1
              have C2 := Lib.hid c2
              clear c1 c2 hq
              have hcv : IntKind.u64.wrap (n0 : Int) = (n0 : Int) := wrap_u64_of n0 (by unfold U64; omega)
              clear hlt2
              refine C1.out.mono ?_
              rintro x v1 ⟨rfl, ra, ca⟩
              simp only []
              have R2 := Lib.hid (HS.out.2.1.ch ca (fun e => HS.out.2.2.2.2.2 e.symm))
              have RA := Lib.hid (And.intro ra ca)
              clear ra ca
              go_wp2_with (go_at_call 40; refine (C2.out _ R2.out).mono ?_; rintro x v2 ⟨rfl, rb, cb⟩)
              have HZ : Hid (RdAt v2 g1 s2 e2 ∧ RdAt v2 g2 s2 e2 ∧ s2.size ≤ s.size ∧ Gr w v2) := ⟨RA.out.1.ch cb HS.out.2.2.2.2.2, rb, Nat.le_trans hsz2 hsz, cb.gr (RA.out.2.gr HS.out.2.2.1 HS.out.2.2.2.1) HS.out.2.2.2.2.1⟩
              clear rb cb
              have q0 := HZ.out.2.1.s
              have q1 := HZ.out.2.1.e
              go_wp2
              go_quiet ((first
                | (go_at_call 38; exact Calls.quiet_of_same ((oct_left g1 s2 e2 _ (HZ.out.1.gr ((Gr.refl _).drewN _))).mono fun _ _ h => ⟨h.1, h.2.symm⟩))
                | (go_at_call 39; exact Calls.quiet_of_same ((oct_err g1 s2 e2 _ (HZ.out.1.gr ((Gr.refl _).drewN _))).mono fun _ _ h => ⟨h.1, h.2.symm⟩))))
              go_wp2
              go_roundw
              case rel => exact ⟨k + 1, by omega, by go_num, s2, e2, HZ.out.2.2.1, HZ.out.1.gr ((Gr.refl _).drewN _), HZ.out.2.1.gr ((Gr.refl _).drewN _), HZ.out.2.2.2.drewN _, HS.out.2.2.2.1, HS.out.2.2.2.2.1, HS.out.2.2.2.2.2⟩
              case measure => simp [intOf]; omega
            · generalize hga : wr.heap.size = ga at *
              have HW : Hid ((wr.alloc (.cells #[.int .i64 d, .int .i64 n] 64)).cell? ⟨ga, 1, none⟩ = some (.int .i64 n) ∧ Gr wr (wr.alloc (.cells #[.int .i64 d, .int .i64 n] 64)) ∧ ga ≠ g1 ∧ ga ≠ g2) := by
                subst hga
                have h := heap_alloc_last wr (.cells #[.int .i64 d, .int .i64 n] 64)
                exact ⟨by rw [cell_of_row _ _ 1 _ _ _ h]; rfl, (Gr.refl wr).alloc _, fun e => by have := HS0.out.1.lt; omega, fun e => by have := HS0.out.2.1.lt; omega⟩
              clear hga hc0 hc1
              generalize wr.alloc (.cells #[.int .i64 d, .int .i64 n] 64) = W1 at *
              have HS : Hid (RdAt W1 g1 s' e' ∧ RdAt W1 g2 s' e' ∧ Gr w W1 ∧ w.heap.size ≤ g1 ∧ w.heap.size ≤ g2 ∧ g1 ≠ g2) := ⟨HS0.out.1.gr HW.out.2.1, HS0.out.2.1.gr HW.out.2.1, HS0.out.2.2.1.trans HW.out.2.1, HS0.out.2.2.2⟩
              obtain ⟨n0, s2, e2, hq⟩ : ∃ a b c, rdNum s' e' 8 = (a, b, c) := ⟨_, _, _, rfl⟩
              have hlt2 := rdNum_lt s' e' 8
              have hsz2 := rdNum_size s' e' 8
              have c1 := oct_rdeight g1 s' hs' e' W1 HS.out.1
              have c2 := fun v1 h => rref_num g2 s' hs' e' 8 (by omega) v1 h
              rw [hq] at c1 c2 hlt2 hsz2
              simp only at hsz2 hlt2
              have C1 := Lib.hid c1
              have C2 := Lib.hid c2
              clear c1 c2 hq
              clear hlt2
              refine C1.out.mono ?_
              rintro x v1 ⟨rfl, ra, ca⟩
              simp only []
              have R2 := Lib.hid (HS.out.2.1.ch ca (fun e => HS.out.2.2.2.2.2 e.symm))
              have RA := Lib.hid (And.intro ra ca)
              clear ra ca
              go_wp2_with (go_at_call 40; refine (C2.out _ R2.out).mono ?_; rintro x v2 ⟨rfl, rb, cb⟩)
              have HZ : Hid (RdAt v2 g1 s2 e2 ∧ RdAt v2 g2 s2 e2 ∧ s2.size ≤ s.size ∧ Gr w v2) := ⟨RA.out.1.ch cb HS.out.2.2.2.2.2, rb, Nat.le_trans hsz2 hsz, cb.gr (RA.out.2.gr HS.out.2.2.1 HS.out.2.2.2.1) HS.out.2.2.2.2.1⟩
              clear rb cb
              have q0 := HZ.out.2.1.s
              have q1 := HZ.out.2.1.e
              go_wp2
              go_quiet ((first
                | (go_at_call 38; exact Calls.quiet_of_same ((oct_left g1 s2 e2 _ (HZ.out.1.gr ((Gr.refl _).drewN _))).mono fun _ _ h => ⟨h.1, h.2.symm⟩))
                | (go_at_call 39; exact Calls.quiet_of_same ((oct_err g1 s2 e2 _ (HZ.out.1.gr ((Gr.refl _).drewN _))).mono fun _ _ h => ⟨h.1, h.2.symm⟩))))
              go_wp2
              go_roundw
              case rel => exact ⟨k + 1, by omega, by go_num, s2, e2, HZ.out.2.2.1, HZ.out.1.gr ((Gr.refl _).drewN _), HZ.out.2.1.gr ((Gr.refl _).drewN _), HZ.out.2.2.2.drewN _, HS.out.2.2.2.1, HS.out.2.2.2.2.1, HS.out.2.2.2.2.2⟩
              case measure => simp [intOf]; omega
            · generalize hga : wr.heap.size = ga at *
              have HW : Hid ((wr.alloc (.cells #[.int .i64 d, .int .i64 n] 64)).cell? ⟨ga, 1, none⟩ = some (.int .i64 n) ∧ Gr wr (wr.alloc (.cells #[.int .i64 d, .int .i64 n] 64)) ∧ ga ≠ g1 ∧ ga ≠ g2) := by
                subst hga
                have h := heap_alloc_last wr (.cells #[.int .i64 d, .int .i64 n] 64)
                exact ⟨by rw [cell_of_row _ _ 1 _ _ _ h]; rfl, (Gr.refl wr).alloc _, fun e => by have := HS0.out.1.lt; omega, fun e => by have := HS0.out.2.1.lt; omega⟩
              clear hga hc0 hc1
              generalize wr.alloc (.cells #[.int .i64 d, .int .i64 n] 64) = W1 at *
              have HS : Hid (RdAt W1 g1 s' e' ∧ RdAt W1 g2 s' e' ∧ Gr w W1 ∧ w.heap.size ≤ g1 ∧ w.heap.size ≤ g2 ∧ g1 ≠ g2) := ⟨HS0.out.1.gr HW.out.2.1, HS0.out.2.1.gr HW.out.2.1, HS0.out.2.2.1.trans HW.out.2.1, HS0.out.2.2.2⟩
              obtain ⟨n0, s2, e2, hq⟩ : ∃ a b c, rdNum s' e' 8 = (a, b, c) := ⟨_, _, _, rfl⟩
              have hlt2 := rdNum_lt s' e' 8
              have hsz2 := rdNum_size s' e' 8
              have c1 := oct_rdeight g1 s' hs' e' W1 HS.out.1
              have c2 := fun v1 h => rref_num g2 s' hs' e' 8 (by omega) v1 h
              rw [hq] at c1 c2 hlt2 hsz2
              simp only at hsz2 hlt2
              have C1 := Lib.hid c1
              have C2 := Lib.hid c2
              clear c1 c2 hq
              clear hlt2
              refine C1.out.mono ?_
              rintro x v1 ⟨rfl, ra, ca⟩
              simp only []
              have R2 := Lib.hid (HS.out.2.1.ch ca (fun e => HS.out.2.2.2.2.2 e.symm))
              have RA := Lib.hid (And.intro ra ca)
              clear ra ca
              go_wp2_with (go_at_call 40; refine (C2.out _ R2.out).mono ?_; rintro x v2 ⟨rfl, rb, cb⟩)
              have HZ : Hid (RdAt v2 g1 s2 e2 ∧ RdAt v2 g2 s2 e2 ∧ s2.size ≤ s.size ∧ Gr w v2) := ⟨RA.out.1.ch cb HS.out.2.2.2.2.2, rb, Nat.le_trans hsz2 hsz, cb.gr (RA.out.2.gr HS.out.2.2.1 HS.out.2.2.2.1) HS.out.2.2.2.2.1⟩
              clear rb cb
              have q0 := HZ.out.2.1.s
              have q1 := HZ.out.2.1.e
              go_wp2
              go_quiet ((first
                | (go_at_call 38; exact Calls.quiet_of_same ((oct_left g1 s2 e2 _ (HZ.out.1.gr ((Gr.refl _).drewN _))).mono fun _ _ h => ⟨h.1, h.2.symm⟩))
                | (go_at_call 39; exact Calls.quiet_of_same ((oct_err g1 s2 e2 _ (HZ.out.1.gr ((Gr.refl _).drewN _))).mono fun _ _ h => ⟨h.1, h.2.symm⟩))))
              go_wp2
              go_roundw
              case rel => exact ⟨k + 1, by omega, by go_num, s2, e2, HZ.out.2.2.1, HZ.out.1.gr ((Gr.refl _).drewN _), HZ.out.2.1.gr ((Gr.refl _).drewN _), HZ.out.2.2.2.drewN _, HS.out.2.2.2.1, HS.out.2.2.2.2.1, HS.out.2.2.2.2.2⟩
              case measure => simp [intOf]; omega
            · generalize hga : wr.heap.size = ga at *
              have HW : Hid ((wr.alloc (.cells #[.int .i64 d, .int .i64 n] 64)).cell? ⟨ga, 1, none⟩ = some (.int .i64 n) ∧ Gr wr (wr.alloc (.cells #[.int .i64 d, .int .i64 n] 64)) ∧ ga ≠ g1 ∧ ga ≠ g2) := by
                subst hga
                have h := heap_alloc_last wr (.cells #[.int .i64 d, .int .i64 n] 64)
                exact ⟨by rw [cell_of_row _ _ 1 _ _ _ h]; rfl, (Gr.refl wr).alloc _, fun e => by have := HS0.out.1.lt; omega, fun e => by have := HS0.out.2.1.lt; omega⟩
              clear hga hc0 hc1
              generalize wr.alloc (.cells #[.int .i64 d, .int .i64 n] 64) = W1 at *
              have HS : Hid (RdAt W1 g1 s' e' ∧ RdAt W1 g2 s' e' ∧ Gr w W1 ∧ w.heap.size ≤ g1 ∧ w.heap.size ≤ g2 ∧ g1 ≠ g2) := ⟨HS0.out.1.gr HW.out.2.1, HS0.out.2.1.gr HW.out.2.1, HS0.out.2.2.1.trans HW.out.2.1, HS0.out.2.2.2⟩
              obtain ⟨t0, s2, e2, hq⟩ : ∃ a b c, rdText s' e' n = (a, b, c) := ⟨_, _, _, rfl⟩
              have hsz2 : s2.size ≤ s'.size := by have := (rdText_size s' e' n).2; rw [hq] at this; exact this
              have c1 := fun w1 h => oct_rdtext g1 s' hs' e' n hgx w1 h
              have c2 := fun w1 h => rref_text_ g2 s' hs' e' n hgx w1 h
              rw [hq] at c1 c2
              have C1 := Lib.hid c1
              have C2 := Lib.hid c2
              clear c1 c2 hq
              go_region_held3 (fun w' => w'.cell? ⟨ga, 1, none⟩ = some (.int .i64 n))
                (first | exact HW.out.1 | exact RC.out.2 | assumption)
                (first
                  | (go_at_call 31; refine (C1.out _ (by exact HS.out.1.gr ((Gr.refl _).drew))).mono ?_; rintro x v1 ⟨rfl, ra, ca⟩; have RC : Hid (Ch g1 W1 v1 ∧ v1.cell? ⟨ga, 1, none⟩ = some (.int .i64 n)) := ⟨((Gr.refl W1).drew.ch g1).trans ca, (((Gr.refl W1).drew.ch g1).trans ca).cell HW.out.2.2.1 HW.out.1⟩; have RA := Lib.hid (And.intro ra RC.out.1); clear ra ca)
                  | (go_at_call 41; refine (C2.out _ (by exact HS.out.2.1.ch RA.out.2 (fun e => HS.out.2.2.2.2.2 e.symm))).mono ?_; rintro x v2 ⟨rfl, rb, cb⟩; have RD : Hid (v2.cell? ⟨ga, 1, none⟩ = some (.int .i64 n)) := cb.cell HW.out.2.2.2 RC.out.2; have RD' := RD.out))
              have HZ : Hid (RdAt v2 g1 s2 e2 ∧ RdAt v2 g2 s2 e2 ∧ s2.size ≤ s.size ∧ Gr w v2) := ⟨RA.out.1.ch cb HS.out.2.2.2.2.2, rb, Nat.le_trans hsz2 hsz, cb.gr (RA.out.2.gr HS.out.2.2.1 HS.out.2.2.2.1) HS.out.2.2.2.2.1⟩
              clear rb cb
              have q0 := HZ.out.2.1.s
              have q1 := HZ.out.2.1.e
              go_wp2
              go_quiet ((first
                | (go_at_call 38; exact Calls.quiet_of_same ((oct_left g1 s2 e2 _ (HZ.out.1.gr ((Gr.refl _).drewN _))).mono fun _ _ h => ⟨h.1, h.2.symm⟩))
                | (go_at_call 39; exact Calls.quiet_of_same ((oct_err g1 s2 e2 _ (HZ.out.1.gr ((Gr.refl _).drewN _))).mono fun _ _ h => ⟨h.1, h.2.symm⟩))))
              go_wp2
              go_roundw
              case rel => exact ⟨k + 1, by omega, by go_num, s2, e2, HZ.out.2.2.1, HZ.out.1.gr ((Gr.refl _).drewN _), HZ.out.2.1.gr ((Gr.refl _).drewN _), HZ.out.2.2.2.drewN _, HS.out.2.2.2.1, HS.out.2.2.2.2.1, HS.out.2.2.2.2.2⟩
              case measure => simp [intOf]; omega
            · generalize hga : wr.heap.size = ga at *
              have HW : Hid ((wr.alloc (.cells #[.int .i64 d, .int .i64 n] 64)).cell? ⟨ga, 1, none⟩ = some (.int .i64 n) ∧ Gr wr (wr.alloc (.cells #[.int .i64 d, .int .i64 n] 64)) ∧ ga ≠ g1 ∧ ga ≠ g2) := by
                subst hga
                have h := heap_alloc_last wr (.cells #[.int .i64 d, .int .i64 n] 64)
                exact ⟨by rw [cell_of_row _ _ 1 _ _ _ h]; rfl, (Gr.refl wr).alloc _, fun e => by have := HS0.out.1.lt; omega, fun e => by have := HS0.out.2.1.lt; omega⟩
              clear hga hc0 hc1
              generalize wr.alloc (.cells #[.int .i64 d, .int .i64 n] 64) = W1 at *
              have HS : Hid (RdAt W1 g1 s' e' ∧ RdAt W1 g2 s' e' ∧ Gr w W1 ∧ w.heap.size ≤ g1 ∧ w.heap.size ≤ g2 ∧ g1 ≠ g2) := ⟨HS0.out.1.gr HW.out.2.1, HS0.out.2.1.gr HW.out.2.1, HS0.out.2.2.1.trans HW.out.2.1, HS0.out.2.2.2⟩
              obtain ⟨t0, s2, e2, hq⟩ : ∃ a b c, rdText s' e' n = (a, b, c) := ⟨_, _, _, rfl⟩
              have hsz2 : s2.size ≤ s'.size := by have := (rdText_size s' e' n).2; rw [hq] at this; exact this
              have c1 := fun w1 h => oct_rdtext g1 s' hs' e' n hgx w1 h
              have c2 := fun w1 h => rref_text_ g2 s' hs' e' n hgx w1 h
              rw [hq] at c1 c2
              have C1 := Lib.hid c1
              have C2 := Lib.hid c2
              clear c1 c2 hq
              go_region_held3 (fun w' => w'.cell? ⟨ga, 1, none⟩ = some (.int .i64 n))
                (first | exact HW.out.1 | exact RC.out.2 | assumption)
                (first
                  | (go_at_call 31; refine (C1.out _ (by exact HS.out.1.gr ((Gr.refl _).drew))).mono ?_; rintro x v1 ⟨rfl, ra, ca⟩; have RC : Hid (Ch g1 W1 v1 ∧ v1.cell? ⟨ga, 1, none⟩ = some (.int .i64 n)) := ⟨((Gr.refl W1).drew.ch g1).trans ca, (((Gr.refl W1).drew.ch g1).trans ca).cell HW.out.2.2.1 HW.out.1⟩; have RA := Lib.hid (And.intro ra RC.out.1); clear ra ca)
                  | (go_at_call 41; refine (C2.out _ (by exact HS.out.2.1.ch RA.out.2 (fun e => HS.out.2.2.2.2.2 e.symm))).mono ?_; rintro x v2 ⟨rfl, rb, cb⟩; have RD : Hid (v2.cell? ⟨ga, 1, none⟩ = some (.int .i64 n)) := cb.cell HW.out.2.2.2 RC.out.2; have RD' := RD.out))
              have HZ : Hid (RdAt v2 g1 s2 e2 ∧ RdAt v2 g2 s2 e2 ∧ s2.size ≤ s.size ∧ Gr w v2) := ⟨RA.out.1.ch cb HS.out.2.2.2.2.2, rb, Nat.le_trans hsz2 hsz, cb.gr (RA.out.2.gr HS.out.2.2.1 HS.out.2.2.2.1) HS.out.2.2.2.2.1⟩
              clear rb cb
              have q0 := HZ.out.2.1.s
              have q1 := HZ.out.2.1.e
              go_wp2
              go_quiet ((first
                | (go_at_call 38; exact Calls.quiet_of_same ((oct_left g1 s2 e2 _ (HZ.out.1.gr ((Gr.refl _).drewN _))).mono fun _ _ h => ⟨h.1, h.2.symm⟩))
                | (go_at_call 39; exact Calls.quiet_of_same ((oct_err g1 s2 e2 _ (HZ.out.1.gr ((Gr.refl _).drewN _))).mono fun _ _ h => ⟨h.1, h.2.symm⟩))))
              go_wp2
              go_roundw
              case rel => exact ⟨k + 1, by omega, by go_num, s2, e2, HZ.out.2.2.1, HZ.out.1.gr ((Gr.refl _).drewN _), HZ.out.2.1.gr ((Gr.refl _).drewN _), HZ.out.2.2.2.drewN _, HS.out.2.2.2.1, HS.out.2.2.2.2.1, HS.out.2.2.2.2.2⟩
              case measure => simp [intOf]; omega
            · generalize hga : wr.heap.size = ga at *
              have HW : Hid ((wr.alloc (.cells #[.int .i64 d, .int .i64 n] 64)).cell? ⟨ga, 1, none⟩ = some (.int .i64 n) ∧ Gr wr (wr.alloc (.cells #[.int .i64 d, .int .i64 n] 64)) ∧ ga ≠ g1 ∧ ga ≠ g2) := by
                subst hga
                have h := heap_alloc_last wr (.cells #[.int .i64 d, .int .i64 n] 64)
                exact ⟨by rw [cell_of_row _ _ 1 _ _ _ h]; rfl, (Gr.refl wr).alloc _, fun e => by have := HS0.out.1.lt; omega, fun e => by have := HS0.out.2.1.lt; omega⟩
              clear hga hc0 hc1
              generalize wr.alloc (.cells #[.int .i64 d, .int .i64 n] 64) = W1 at *
              have HS : Hid (RdAt W1 g1 s' e' ∧ RdAt W1 g2 s' e' ∧ Gr w W1 ∧ w.heap.size ≤ g1 ∧ w.heap.size ≤ g2 ∧ g1 ≠ g2) := ⟨HS0.out.1.gr HW.out.2.1, HS0.out.2.1.gr HW.out.2.1, HS0.out.2.2.1.trans HW.out.2.1, HS0.out.2.2.2⟩
              obtain ⟨t0, s2, e2, hq⟩ : ∃ a b c, rdTake s' e' n = (a, b, c) := ⟨_, _, _, rfl⟩
              have hsz2 : s2.size ≤ s'.size := by have := (rdTake_size s' e' n).2.1; rw [hq] at this; exact this
              have c1 := fun w1 h => oct_take g1 s' hs' e' n w1 h
              have c2 := fun w1 h => rref_take g2 s' hs' e' n w1 h
              rw [hq] at c1 c2
              have C1 := Lib.hid c1
              have C2 := Lib.hid c2
              clear c1 c2 hq
              go_region_held3 (fun w' => w'.cell? ⟨ga, 1, none⟩ = some (.int .i64 n))
                (first | exact HW.out.1 | exact RC.out.2 | assumption)
                (first
                  | (go_at_call 37; refine (C1.out _ (by exact HS.out.1.gr ((Gr.refl _).drew))).mono ?_; rintro x v1 ⟨rfl, ra, ca⟩; have RC : Hid (Ch g1 W1 v1 ∧ v1.cell? ⟨ga, 1, none⟩ = some (.int .i64 n)) := ⟨((Gr.refl W1).drew.ch g1).trans ca, (((Gr.refl W1).drew.ch g1).trans ca).cell HW.out.2.2.1 HW.out.1⟩; have RA := Lib.hid (And.intro ra RC.out.1); clear ra ca)
                  | (go_at_call 42; refine (C2.out _ (by exact HS.out.2.1.ch RA.out.2 (fun e => HS.out.2.2.2.2.2 e.symm))).mono ?_; rintro x v2 ⟨rfl, rb, cb⟩; have RD : Hid (v2.cell? ⟨ga, 1, none⟩ = some (.int .i64 n)) := cb.cell HW.out.2.2.2 RC.out.2; have RD' := RD.out))
              have HZ : Hid (RdAt v2 g1 s2 e2 ∧ RdAt v2 g2 s2 e2 ∧ s2.size ≤ s.size ∧ Gr w v2) := ⟨RA.out.1.ch cb HS.out.2.2.2.2.2, rb, Nat.le_trans hsz2 hsz, cb.gr (RA.out.2.gr HS.out.2.2.1 HS.out.2.2.2.1) HS.out.2.2.2.2.1⟩
              clear rb cb
              have q0 := HZ.out.2.1.s
              have q1 := HZ.out.2.1.e
              go_wp2
              go_quiet ((first
                | (go_at_call 38; exact Calls.quiet_of_same ((oct_left g1 s2 e2 _ (HZ.out.1.gr ((Gr.refl _).drewN _))).mono fun _ _ h => ⟨h.1, h.2.symm⟩))
                | (go_at_call 39; exact Calls.quiet_of_same ((oct_err g1 s2 e2 _ (HZ.out.1.gr ((Gr.refl _).drewN _))).mono fun _ _ h => ⟨h.1, h.2.symm⟩))))
              go_wp2
              go_roundw
              case rel => exact ⟨k + 1, by omega, by go_num, s2, e2, HZ.out.2.2.1, HZ.out.1.gr ((Gr.refl _).drewN _), HZ.out.2.1.gr ((Gr.refl _).drewN _), HZ.out.2.2.2.drewN _, HS.out.2.2.2.1, HS.out.2.2.2.2.1, HS.out.2.2.2.2.2⟩
              case measure => simp [intOf]; omega
            · generalize hga : wr.heap.size = ga at *
              have HW : Hid ((wr.alloc (.cells #[.int .i64 d, .int .i64 n] 64)).cell? ⟨ga, 1, none⟩ = some (.int .i64 n) ∧ Gr wr (wr.alloc (.cells #[.int .i64 d, .int .i64 n] 64)) ∧ ga ≠ g1 ∧ ga ≠ g2) := by
                subst hga
                have h := heap_alloc_last wr (.cells #[.int .i64 d, .int .i64 n] 64)
                exact ⟨by rw [cell_of_row _ _ 1 _ _ _ h]; rfl, (Gr.refl wr).alloc _, fun e => by have := HS0.out.1.lt; omega, fun e => by have := HS0.out.2.1.lt; omega⟩
              clear hga hc0 hc1
              generalize wr.alloc (.cells #[.int .i64 d, .int .i64 n] 64) = W1 at *
              have HS : Hid (RdAt W1 g1 s' e' ∧ RdAt W1 g2 s' e' ∧ Gr w W1 ∧ w.heap.size ≤ g1 ∧ w.heap.size ≤ g2 ∧ g1 ≠ g2) := ⟨HS0.out.1.gr HW.out.2.1, HS0.out.2.1.gr HW.out.2.1, HS0.out.2.2.1.trans HW.out.2.1, HS0.out.2.2.2⟩
              obtain ⟨t0, s2, e2, hq⟩ : ∃ a b c, rdTake s' e' n = (a, b, c) := ⟨_, _, _, rfl⟩
              have hsz2 : s2.size ≤ s'.size := by have := (rdTake_size s' e' n).2.1; rw [hq] at this; exact this
              have c1 := fun w1 h => oct_take g1 s' hs' e' n w1 h
              have c2 := fun w1 h => rref_take g2 s' hs' e' n w1 h
              rw [hq] at c1 c2
              have C1 := Lib.hid c1
              have C2 := Lib.hid c2
              clear c1 c2 hq
              go_region_held3 (fun w' => w'.cell? ⟨ga, 1, none⟩ = some (.int .i64 n))
                (first | exact HW.out.1 | exact RC.out.2 | assumption)
                (first
                  | (go_at_call 37; refine (C1.out _ (by exact HS.out.1.gr ((Gr.refl _).drew))).mono ?_; rintro x v1 ⟨rfl, ra, ca⟩; have RC : Hid (Ch g1 W1 v1 ∧ v1.cell? ⟨ga, 1, none⟩ = some (.int .i64 n)) := ⟨((Gr.refl W1).drew.ch g1).trans ca, (((Gr.refl W1).drew.ch g1).trans ca).cell HW.out.2.2.1 HW.out.1⟩; have RA := Lib.hid (And.intro ra RC.out.1); clear ra ca)
                  | (go_at_call 42; refine (C2.out _ (by exact HS.out.2.1.ch RA.out.2 (fun e => HS.out.2.2.2.2.2 e.symm))).mono ?_; rintro x v2 ⟨rfl, rb, cb⟩; have RD : Hid (v2.cell? ⟨ga, 1, none⟩ = some (.int .i64 n)) := cb.cell HW.out.2.2.2 RC.out.2; have RD' := RD.out))
              have HZ : Hid (RdAt v2 g1 s2 e2 ∧ RdAt v2 g2 s2 e2 ∧ s2.size ≤ s.size ∧ Gr w v2) := ⟨RA.out.1.ch cb HS.out.2.2.2.2.2, rb, Nat.le_trans hsz2 hsz, cb.gr (RA.out.2.gr HS.out.2.2.1 HS.out.2.2.2.1) HS.out.2.2.2.2.1⟩
              clear rb cb
              have q0 := HZ.out.2.1.s
              have q1 := HZ.out.2.1.e
              go_wp2
              go_quiet ((first
                | (go_at_call 38; exact Calls.quiet_of_same ((oct_left g1 s2 e2 _ (HZ.out.1.gr ((Gr.refl _).drewN _))).mono fun _ _ h => ⟨h.1, h.2.symm⟩))
                | (go_at_call 39; exact Calls.quiet_of_same ((oct_err g1 s2 e2 _ (HZ.out.1.gr ((Gr.refl _).drewN _))).mono fun _ _ h => ⟨h.1, h.2.symm⟩))))
              go_wp2
              go_roundw
              case rel => exact ⟨k + 1, by omega, by go_num, s2, e2, HZ.out.2.2.1, HZ.out.1.gr ((Gr.refl _).drewN _), HZ.out.2.1.gr ((Gr.refl _).drewN _), HZ.out.2.2.2.drewN _, HS.out.2.2.2.1, HS.out.2.2.2.2.1, HS.out.2.2.2.2.2⟩
              case measure => simp [intOf]; omega
            · generalize hga : wr.heap.size = ga at *
              have HW : Hid ((wr.alloc (.cells #[.int .i64 d, .int .i64 n] 64)).cell? ⟨ga, 1, none⟩ = some (.int .i64 n) ∧ Gr wr (wr.alloc (.cells #[.int .i64 d, .int .i64 n] 64)) ∧ ga ≠ g1 ∧ ga ≠ g2) := by
                subst hga
                have h := heap_alloc_last wr (.cells #[.int .i64 d, .int .i64 n] 64)
                exact ⟨by rw [cell_of_row _ _ 1 _ _ _ h]; rfl, (Gr.refl wr).alloc _, fun e => by have := HS0.out.1.lt; omega, fun e => by have := HS0.out.2.1.lt; omega⟩
              clear hga hc0 hc1
              generalize wr.alloc (.cells #[.int .i64 d, .int .i64 n] 64) = W1 at *
              have HS : Hid (RdAt W1 g1 s' e' ∧ RdAt W1 g2 s' e' ∧ Gr w W1 ∧ w.heap.size ≤ g1 ∧ w.heap.size ≤ g2 ∧ g1 ≠ g2) := ⟨HS0.out.1.gr HW.out.2.1, HS0.out.2.1.gr HW.out.2.1, HS0.out.2.2.1.trans HW.out.2.1, HS0.out.2.2.2⟩
              have hc1 := HW.out.1
              obtain ⟨s2, hs2⟩ : ∃ x, x = s' := ⟨_, rfl⟩
              obtain ⟨e2, he2⟩ : ∃ x, x = rdFail e' n := ⟨_, rfl⟩
              have c1 := oct_fail g1 s' e' n W1 HS.out.1
              have c2 := fun v1 h => rref_fail g2 s' e' n v1 h
              rw [← he2, ← hs2] at c1 c2
              have hsz2 : s2.size ≤ s'.size := by rw [hs2]; exact Nat.le_refl _
              have C1 := Lib.hid c1
              have R0 := HS.out.2.1
              rw [← hs2] at R0
              have C2 := Lib.hid c2
              have R0' := Lib.hid R0
              clear c1 c2 hs2 he2 R0
              refine C1.out.mono ?_
              rintro x v1 ⟨rfl, ra, ca⟩
              simp only []
              have hc2 := ca.cell HW.out.2.2.1 hc1
              have R2 := Lib.hid (R0'.out.ch ca (fun e => HS.out.2.2.2.2.2 e.symm))
              have RA := Lib.hid (And.intro ra ca)
              clear ra ca hc1
              go_wp2_with (go_at_call 43; refine (C2.out _ R2.out).mono ?_; rintro x v2 ⟨rfl, rb, cb⟩)
              have HZ : Hid (RdAt v2 g1 s2 e2 ∧ RdAt v2 g2 s2 e2 ∧ s2.size ≤ s.size ∧ Gr w v2) := ⟨RA.out.1.ch cb HS.out.2.2.2.2.2, rb, Nat.le_trans hsz2 hsz, cb.gr (RA.out.2.gr HS.out.2.2.1 HS.out.2.2.2.1) HS.out.2.2.2.2.1⟩
              clear rb cb
              have q0 := HZ.out.2.1.s
              have q1 := HZ.out.2.1.e
              go_wp2
              go_quiet ((first
                | (go_at_call 38; exact Calls.quiet_of_same ((oct_left g1 s2 e2 _ (HZ.out.1.gr ((Gr.refl _).drewN _))).mono fun _ _ h => ⟨h.1, h.2.symm⟩))
                | (go_at_call 39; exact Calls.quiet_of_same ((oct_err g1 s2 e2 _ (HZ.out.1.gr ((Gr.refl _).drewN _))).mono fun _ _ h => ⟨h.1, h.2.symm⟩))))
              go_wp2
              go_roundw
              case rel => exact ⟨k + 1, by omega, by go_num, s2, e2, HZ.out.2.2.1, HZ.out.1.gr ((Gr.refl _).drewN _), HZ.out.2.1.gr ((Gr.refl _).drewN _), HZ.out.2.2.2.drewN _, HS.out.2.2.2.1, HS.out.2.2.2.2.1, HS.out.2.2.2.2.2⟩
              case measure => simp [intOf]; omega
            · generalize hga : wr.heap.size = ga at *
              have HW : Hid ((wr.alloc (.cells #[.int .i64 d, .int .i64 n] 64)).cell? ⟨ga, 1, none⟩ = some (.int .i64 n) ∧ Gr wr (wr.alloc (.cells #[.int .i64 d, .int .i64 n] 64)) ∧ ga ≠ g1 ∧ ga ≠ g2) := by
                subst hga
                have h := heap_alloc_last wr (.cells #[.int .i64 d, .int .i64 n] 64)
                exact ⟨by rw [cell_of_row _ _ 1 _ _ _ h]; rfl, (Gr.refl wr).alloc _, fun e => by have := HS0.out.1.lt; omega, fun e => by have := HS0.out.2.1.lt; omega⟩
              clear hga hc0 hc1
              generalize wr.alloc (.cells #[.int .i64 d, .int .i64 n] 64) = W1 at *
              have HS : Hid (RdAt W1 g1 s' e' ∧ RdAt W1 g2 s' e' ∧ Gr w W1 ∧ w.heap.size ≤ g1 ∧ w.heap.size ≤ g2 ∧ g1 ≠ g2) := ⟨HS0.out.1.gr HW.out.2.1, HS0.out.2.1.gr HW.out.2.1, HS0.out.2.2.1.trans HW.out.2.1, HS0.out.2.2.2⟩
              have hc1 := HW.out.1
              obtain ⟨s2, hs2⟩ : ∃ x, x = s' := ⟨_, rfl⟩
              obtain ⟨e2, he2⟩ : ∃ x, x = rdFail e' n := ⟨_, rfl⟩
              have c1 := oct_fail g1 s' e' n W1 HS.out.1
              have c2 := fun v1 h => rref_fail g2 s' e' n v1 h
              rw [← he2, ← hs2] at c1 c2
              have hsz2 : s2.size ≤ s'.size := by rw [hs2]; exact Nat.le_refl _
              have C1 := Lib.hid c1
              have R0 := HS.out.2.1
              rw [← hs2] at R0
              have C2 := Lib.hid c2
              have R0' := Lib.hid R0
              clear c1 c2 hs2 he2 R0
              refine C1.out.mono ?_
              rintro x v1 ⟨rfl, ra, ca⟩
              simp only []
              have hc2 := ca.cell HW.out.2.2.1 hc1
              have R2 := Lib.hid (R0'.out.ch ca (fun e => HS.out.2.2.2.2.2 e.symm))
              have RA := Lib.hid (And.intro ra ca)
              clear ra ca hc1
              go_wp2_with (go_at_call 43; refine (C2.out _ R2.out).mono ?_; rintro x v2 ⟨rfl, rb, cb⟩)
              have HZ : Hid (RdAt v2 g1 s2 e2 ∧ RdAt v2 g2 s2 e2 ∧ s2.size ≤ s.size ∧ Gr w v2) := ⟨RA.out.1.ch cb HS.out.2.2.2.2.2, rb, Nat.le_trans hsz2 hsz, cb.gr (RA.out.2.gr HS.out.2.2.1 HS.out.2.2.2.1) HS.out.2.2.2.2.1⟩
              clear rb cb
              have q0 := HZ.out.2.1.s
              have q1 := HZ.out.2.1.e
              go_wp2
              go_quiet ((first
                | (go_at_call 38; exact Calls.quiet_of_same ((oct_left g1 s2 e2 _ (HZ.out.1.gr ((Gr.refl _).drewN _))).mono fun _ _ h => ⟨h.1, h.2.symm⟩))
                | (go_at_call 39; exact Calls.quiet_of_same ((oct_err g1 s2 e2 _ (HZ.out.1.gr ((Gr.refl _).drewN _))).mono fun _ _ h => ⟨h.1, h.2.symm⟩))))
              go_wp2
              go_roundw
              case rel => exact ⟨k + 1, by omega, by go_num, s2, e2, HZ.out.2.2.1, HZ.out.1.gr ((Gr.refl _).drewN _), HZ.out.2.1.gr ((Gr.refl _).drewN _), HZ.out.2.2.2.drewN _, HS.out.2.2.2.1, HS.out.2.2.2.2.1, HS.out.2.2.2.2.2⟩
              case measure => simp [intOf]; omega
            · generalize hga : wr.heap.size = ga at *
              have HW : Hid ((wr.alloc (.cells #[.int .i64 d, .int .i64 n] 64)).cell? ⟨ga, 1, none⟩ = some (.int .i64 n) ∧ Gr wr (wr.alloc (.cells #[.int .i64 d, .int .i64 n] 64)) ∧ ga ≠ g1 ∧ ga ≠ g2) := by
                subst hga
                have h := heap_alloc_last wr (.cells #[.int .i64 d, .int .i64 n] 64)
                exact ⟨by rw [cell_of_row _ _ 1 _ _ _ h]; rfl, (Gr.refl wr).alloc _, fun e => by have := HS0.out.1.lt; omega, fun e => by have := HS0.out.2.1.lt; omega⟩
              clear hga hc0 hc1
              generalize wr.alloc (.cells #[.int .i64 d, .int .i64 n] 64) = W1 at *
              have HS : Hid (RdAt W1 g1 s' e' ∧ RdAt W1 g2 s' e' ∧ Gr w W1 ∧ w.heap.size ≤ g1 ∧ w.heap.size ≤ g2 ∧ g1 ≠ g2) := ⟨HS0.out.1.gr HW.out.2.1, HS0.out.2.1.gr HW.out.2.1, HS0.out.2.2.1.trans HW.out.2.1, HS0.out.2.2.2⟩
              obtain ⟨s2, hs2⟩ : ∃ x, x = s' := ⟨_, rfl⟩
              obtain ⟨e2, he2⟩ : ∃ x, x = e' := ⟨_, rfl⟩
              rw [← hs2, ← he2] at HS
              have hsz2 : s2.size ≤ s.size := by rw [hs2]; exact hsz
              refine (oct_end g1 s2 e2 W1 HS.out.1).mono ?_
              rintro x v1 ⟨rfl, rfl⟩
              simp only []
              go_wp2_with (go_at_call 44; refine (rref_end g2 s2 e2 _ HS.out.2.1).mono ?_; rintro x v2 ⟨rfl, rfl⟩)
              have HZ : Hid (RdAt W1 g1 s2 e2 ∧ RdAt W1 g2 s2 e2 ∧ s2.size ≤ s.size ∧ Gr w W1) := ⟨HS.out.1, HS.out.2.1, hsz2, HS.out.2.2.1⟩
              have q0 := HZ.out.2.1.s
              have q1 := HZ.out.2.1.e
              go_wp2
              go_quiet ((first
                | (go_at_call 38; exact Calls.quiet_of_same ((oct_left g1 s2 e2 _ (HZ.out.1.gr ((Gr.refl _).drewN _))).mono fun _ _ h => ⟨h.1, h.2.symm⟩))
                | (go_at_call 39; exact Calls.quiet_of_same ((oct_err g1 s2 e2 _ (HZ.out.1.gr ((Gr.refl _).drewN _))).mono fun _ _ h => ⟨h.1, h.2.symm⟩))))
              go_wp2
              go_roundw
              case rel => exact ⟨k + 1, by omega, by go_num, s2, e2, HZ.out.2.2.1, HZ.out.1.gr ((Gr.refl _).drewN _), HZ.out.2.1.gr ((Gr.refl _).drewN _), HZ.out.2.2.2.drewN _, HS.out.2.2.2.1, HS.out.2.2.2.2.1, HS.out.2.2.2.2.2⟩
              case measure => simp [intOf]; omega
            · generalize hga : wr.heap.size = ga at *
              have HW : Hid ((wr.alloc (.cells #[.int .i64 d, .int .i64 n] 64)).cell? ⟨ga, 1, none⟩ = some (.int .i64 n) ∧ Gr wr (wr.alloc (.cells #[.int .i64 d, .int .i64 n] 64)) ∧ ga ≠ g1 ∧ ga ≠ g2) := by
                subst hga
                have h := heap_alloc_last wr (.cells #[.int .i64 d, .int .i64 n] 64)
                exact ⟨by rw [cell_of_row _ _ 1 _ _ _ h]; rfl, (Gr.refl wr).alloc _, fun e => by have := HS0.out.1.lt; omega, fun e => by have := HS0.out.2.1.lt; omega⟩
              clear hga hc0 hc1
              generalize wr.alloc (.cells #[.int .i64 d, .int .i64 n] 64) = W1 at *
              have HS : Hid (RdAt W1 g1 s' e' ∧ RdAt W1 g2 s' e' ∧ Gr w W1 ∧ w.heap.size ≤ g1 ∧ w.heap.size ≤ g2 ∧ g1 ≠ g2) := ⟨HS0.out.1.gr HW.out.2.1, HS0.out.2.1.gr HW.out.2.1, HS0.out.2.2.1.trans HW.out.2.1, HS0.out.2.2.2⟩
              obtain ⟨s2, hs2⟩ : ∃ x, x = s' := ⟨_, rfl⟩
              obtain ⟨e2, he2⟩ : ∃ x, x = e' := ⟨_, rfl⟩
              rw [← hs2, ← he2] at HS
              have hsz2 : s2.size ≤ s.size := by rw [hs2]; exact hsz
              refine (oct_end g1 s2 e2 W1 HS.out.1).mono ?_
              rintro x v1 ⟨rfl, rfl⟩
              simp only []
              go_wp2_with (go_at_call 44; refine (rref_end g2 s2 e2 _ HS.out.2.1).mono ?_; rintro x v2 ⟨rfl, rfl⟩)
              have HZ : Hid (RdAt W1 g1 s2 e2 ∧ RdAt W1 g2 s2 e2 ∧ s2.size ≤ s.size ∧ Gr w W1) := ⟨HS.out.1, HS.out.2.1, hsz2, HS.out.2.2.1⟩
              have q0 := HZ.out.2.1.s
              have q1 := HZ.out.2.1.e
              go_wp2
              go_quiet ((first
                | (go_at_call 38; exact Calls.quiet_of_same ((oct_left g1 s2 e2 _ (HZ.out.1.gr ((Gr.refl _).drewN _))).mono fun _ _ h => ⟨h.1, h.2.symm⟩))
                | (go_at_call 39; exact Calls.quiet_of_same ((oct_err g1 s2 e2 _ (HZ.out.1.gr ((Gr.refl _).drewN _))).mono fun _ _ h => ⟨h.1, h.2.symm⟩))))
              go_wp2
              go_roundw
              case rel => exact ⟨k + 1, by omega, by go_num, s2, e2, HZ.out.2.2.1, HZ.out.1.gr ((Gr.refl _).drewN _), HZ.out.2.1.gr ((Gr.refl _).drewN _), HZ.out.2.2.2.drewN _, HS.out.2.2.2.1, HS.out.2.2.2.2.1, HS.out.2.2.2.2.2⟩
              case measure => simp [intOf]; omega
            · generalize hga : wr.heap.size = ga at *
              have HW : Hid ((wr.alloc (.cells #[.int .i64 d, .int .i64 n] 64)).cell? ⟨ga, 1, none⟩ = some (.int .i64 n) ∧ Gr wr (wr.alloc (.cells #[.int .i64 d, .int .i64 n] 64)) ∧ ga ≠ g1 ∧ ga ≠ g2) := by
                subst hga
                have h := heap_alloc_last wr (.cells #[.int .i64 d, .int .i64 n] 64)
                exact ⟨by rw [cell_of_row _ _ 1 _ _ _ h]; rfl, (Gr.refl wr).alloc _, fun e => by have := HS0.out.1.lt; omega, fun e => by have := HS0.out.2.1.lt; omega⟩
              clear hga hc0 hc1
              generalize wr.alloc (.cells #[.int .i64 d, .int .i64 n] 64) = W1 at *
              have HS : Hid (RdAt W1 g1 s' e' ∧ RdAt W1 g2 s' e' ∧ Gr w W1 ∧ w.heap.size ≤ g1 ∧ w.heap.size ≤ g2 ∧ g1 ≠ g2) := ⟨HS0.out.1.gr HW.out.2.1, HS0.out.2.1.gr HW.out.2.1, HS0.out.2.2.1.trans HW.out.2.1, HS0.out.2.2.2⟩
              obtain ⟨n0, s2, e2, hq⟩ : ∃ a b c, rdNum s' e' 1 = (a, b, c) := ⟨_, _, _, rfl⟩
              have hlt2 := rdNum_lt s' e' 1
              have hsz2 := rdNum_size s' e' 1
              have c1 := oct_rdone g1 s' hs' e' W1 HS.out.1
              have c2 := fun v1 h => rref_num g2 s' hs' e' 1 (by omega) v1 h
              rw [hq] at c1 c2 hlt2 hsz2
              simp only at hsz2 hlt2
              have C1 := Lib.hid c1
              have C2 := Lib.hid c2
              clear c1 c2 hq
              have hcv : IntKind.u64.wrap (n0 : Int) = (n0 : Int) := wrap_u64_of n0 (by unfold U64; omega)
              clear hlt2
              refine C1.out.mono ?_
              rintro x v1 ⟨rfl, ra, ca⟩
              simp only []
              have R2 := Lib.hid (HS.out.2.1.ch ca (fun e => HS.out.2.2.2.2.2 e.symm))
              have RA := Lib.hid (And.intro ra ca)
              clear ra ca
              go_wp2_with (go_at_call 40; refine (C2.out _ R2.out).mono ?_; rintro x v2 ⟨rfl, rb, cb⟩)
              have HZ : Hid (RdAt v2 g1 s2 e2 ∧ RdAt v2 g2 s2 e2 ∧ s2.size ≤ s.size ∧ Gr w v2) := ⟨RA.out.1.ch cb HS.out.2.2.2.2.2, rb, Nat.le_trans hsz2 hsz, cb.gr (RA.out.2.gr HS.out.2.2.1 HS.out.2.2.2.1) HS.out.2.2.2.2.1⟩
              clear rb cb
              have q0 := HZ.out.2.1.s
              have q1 := HZ.out.2.1.e
              go_wp2
              go_quiet ((first
                | (go_at_call 38; exact Calls.quiet_of_same ((oct_left g1 s2 e2 _ (HZ.out.1.gr ((Gr.refl _).drewN _))).mono fun _ _ h => ⟨h.1, h.2.symm⟩))
                | (go_at_call 39; exact Calls.quiet_of_same ((oct_err g1 s2 e2 _ (HZ.out.1.gr ((Gr.refl _).drewN _))).mono fun _ _ h => ⟨h.1, h.2.symm⟩))))
              go_wp2
              go_roundw
              case rel => exact ⟨k + 1, by omega, by go_num, s2, e2, HZ.out.2.2.1, HZ.out.1.gr ((Gr.refl _).drewN _), HZ.out.2.1.gr ((Gr.refl _).drewN _), HZ.out.2.2.2.drewN _, HS.out.2.2.2.1, HS.out.2.2.2.2.1, HS.out.2.2.2.2.2⟩
              case measure => simp [intOf]; omega
        · obtain rfl : k = xs.length := by omega
          go_wp2
          go_ret
          obtain ⟨s', e', hsz, r1, r2, hg, hl1, hl2, hne⟩ := HR.out
          exact ⟨rfl, hg⟩
end Go.Proofs.Ytlkkgnidcgochaa
