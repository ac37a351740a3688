/- The law OrderKeys, walked (printed by ordkeys_gen.py). -/
import Derived.Test.YtckklikfikeokaaDoorOrderBackWalk
import Derived.Test.YtckklikfikeokaaDoorOrdTo
import Derived.Test.YtckklikfikeokaaDoorOrdRAfter
import Derived.Test.YtckklikfikeokaaDoorOrdRLess
import Derived.Test.YtckklikfikeokaaDoorOrdRPars
namespace Go.Proofs.YtckklikfikeokaaDoor
open Go.RowKit
set_option linter.unusedVariables false
set_option linter.unusedSimpArgs false
set_option maxRecDepth 100000
set_option maxHeartbeats 4000000
theorem to_as (A : Option Addr) (cap : Nat) (l : List Pa) (hcap : l.length ≤ cap) (hcm : cap ≤ maxLen) (hl : l.length ≤ 4000) (w : World) (hs : SliceAt w A 3 paCell l) :
    Calls Tryd.prog 23 #[.slice A l.length cap] w fun r w' => ∃ A' cap', r = .returned (.slice A' l.length cap') ∧ SliceAt w' A' 3 paCell l ∧ l.length ≤ cap' ∧ cap' ≤ maxLen ∧ Gr w w' := by
  refine (law_to A cap l hcap hcm hl w hs).mono ?_
  rintro x w' ⟨A', cap', rfl, hown, hg⟩
  exact ⟨A', cap', rfl, hown.slice paCell_len, hown.cap_le.1, hown.cap_le.2, hg⟩
theorem rparts_as {S : List UInt8} {xs : List Pa} {e : Int} (h : ParsOf S xs e) (hS : S.length ≤ maxLen) (w : World) :
    Calls Tryd.prog 24 #[.string (B S)] w fun x w' => ∃ A cap, x = .returned (.tuple #[.slice A xs.length cap, .int .i64 e]) ∧ SliceAt w' A 3 paCell xs ∧ xs.length ≤ cap ∧ cap ≤ maxLen ∧ Gr w w' := by
  refine (r4_parts S hS w).mono ?_
  rintro x w' ⟨A, cap, ys, f, rfl, hp, hown, hg⟩
  obtain ⟨rfl, rfl⟩ := hp.uniq h
  exact ⟨A, cap, rfl, hown.slice paCell_len, hown.cap_le.1, hown.cap_le.2, hg⟩
theorem keyB_len (l : List Pa) : l.length ≤ (keyB l).length := by
  induction l with
  | nil => simp
  | cons p l ih =>
    obtain ⟨t, n, s⟩ := p
    have h : keyB ((t, n, s) :: l) = paB (t, n, s) ++ keyB l := by simp [keyB]
    rw [h, List.length_append, List.length_cons]
    cases t <;> simp [paB] <;> omega
theorem pars_some (S : List UInt8) : ∃ xs e, ParsOf S xs e ∧ IntKind.i64.wrap e = e ∧ xs.length ≤ 255 := by
  by_cases h : ∃ xs, canOk xs ∧ keyB xs = S ∧ S.length ≤ 255
  · obtain ⟨xs, h1, h2, h3⟩ := h
    exact ⟨xs, 0, .inl ⟨rfl, h1, h2, h3⟩, by kernel_rfl, by have := keyB_len xs; rw [h2] at this; omega⟩
  · refine ⟨[], 20, .inr ⟨rfl, rfl, ?_⟩, by kernel_rfl, by simp⟩
    by_cases h2 : 255 < S.length
    · exact .inl h2
    · exact .inr fun ys hy he => h ⟨ys, hy, he, by omega⟩
theorem key_e (l : List Pa) : IntKind.i64.wrap (keyAns l).2 = (keyAns l).2 := by
  unfold keyAns; split <;> kernel_rfl
theorem walk_OrderKeys_ (A1 A2 : Option Addr) (cap1 cap2 : Nat) (a b : List Pa) (S : List UInt8) (h1 : a.length ≤ cap1) (h2 : b.length ≤ cap2) (hm1 : cap1 ≤ maxLen) (hm2 : cap2 ≤ maxLen) (oa : ∀ p ∈ a, paOk p) (ob : ∀ p ∈ b, paOk p) (hS : S.length ≤ maxLen) (w : World) (hs1 : SliceAt w A1 3 paCell a) (hs2 : SliceAt w A2 3 paCell b)
    (hml : ∃ m, w.cell? ⟨0, 0, none⟩ = some (.int .i64 m)) :
    Calls Tryd.prog 7 #[.slice A1 a.length cap1, .slice A2 b.length cap2, .string (B S)] w fun e w' => e = .returned (.bool true) ∧ Gr w w' := by
  have HX := Lib.hid (And.intro hs1 hs2)
  have cA := fun w1 => Lib.hid (law04_awake w1)
  have cLa := fun w1 (hg : Gr w w1) => Lib.hid (law_light A1 cap1 a h1 hm1 w1 (HX.out.1.gr hg))
  have cLb := fun w1 (hg : Gr w w1) => Lib.hid (law_light A2 cap2 b h2 hm2 w1 (HX.out.2.gr hg))
  have HML : Hid (∀ W, Gr w W → ∃ m, W.cell? ⟨0, 0, none⟩ = some (.int .i64 m)) := fun W hg => by obtain ⟨m, hm⟩ := hml; exact ⟨m, hg.cells hm⟩
  have zS := B_size S
  have hSm : Hid (S.length ≤ maxLen) := hS
  clear hs1 hs2 hml hS
  by_cases hla : lightB a = true
  case neg =>
    have hla2 : lightB a = false := by simpa using hla
    rw [hla2] at cLa
    clear hla hla2
    go_enter Tryd.func7, Tryd.ntmps7
    go_wp2_with (first
      | (go_at_call 14; refine (cA _).out.mono ?_; clear cA; rintro r v1 ⟨rfl, hg⟩; have HP1 : Hid (Gr w v1 ∧ True) := ⟨hg, trivial⟩; clear hg)
      | (go_at_call_of 15 (Value.slice A1 a.length cap1); refine (cLa _ HP1.out.1).out.mono ?_; clear cLa; rintro r v2 ⟨rfl, hg⟩; have HP2 : Hid (Gr w v2 ∧ True) := ⟨HP1.out.1.trans hg, trivial⟩; clear hg))
    go_ret
    exact ⟨rfl, HP2.out.1⟩
  rw [hla] at cLa
  by_cases hlb : lightB b = true
  case neg =>
    have hlb2 : lightB b = false := by simpa using hlb
    rw [hlb2] at cLb
    clear hlb hlb2 hla
    go_enter Tryd.func7, Tryd.ntmps7
    go_wp2_with (first
      | (go_at_call 14; refine (cA _).out.mono ?_; clear cA; rintro r v1 ⟨rfl, hg⟩; have HP1 : Hid (Gr w v1 ∧ True) := ⟨hg, trivial⟩; clear hg)
      | (go_at_call_of 15 (Value.slice A1 a.length cap1); refine (cLa _ HP1.out.1).out.mono ?_; clear cLa; rintro r v2 ⟨rfl, hg⟩; have HP2 : Hid (Gr w v2 ∧ True) := ⟨HP1.out.1.trans hg, trivial⟩; clear hg)
      | (go_at_call_of 15 (Value.slice A2 b.length cap2); refine (cLb _ HP2.out.1).out.mono ?_; clear cLb; rintro r v3 ⟨rfl, hg⟩; have HP3 : Hid (Gr w v3 ∧ True) := ⟨HP2.out.1.trans hg, trivial⟩; clear hg))
    go_ret
    exact ⟨rfl, HP3.out.1⟩
  rw [hlb] at cLb
  obtain ⟨la, fa⟩ := lightB_true hla
  obtain ⟨lb, fb⟩ := lightB_true hlb
  clear hla hlb
  by_cases hs4 : 400 < S.length
  · have hs4' : (400 : Int) < ((S.length : Nat) : Int) := by omega
    clear hs4
    go_enter Tryd.func7, Tryd.ntmps7
    go_wp2_with (first
      | (go_at_call 14; refine (cA _).out.mono ?_; clear cA; rintro r v1 ⟨rfl, hg⟩; have HP1 : Hid (Gr w v1 ∧ True) := ⟨hg, trivial⟩; clear hg)
      | (go_at_call_of 15 (Value.slice A1 a.length cap1); refine (cLa _ HP1.out.1).out.mono ?_; clear cLa; rintro r v2 ⟨rfl, hg⟩; have HP2 : Hid (Gr w v2 ∧ True) := ⟨HP1.out.1.trans hg, trivial⟩; clear hg)
      | (go_at_call_of 15 (Value.slice A2 b.length cap2); refine (cLb _ HP2.out.1).out.mono ?_; clear cLb; rintro r v3 ⟨rfl, hg⟩; have HP3 : Hid (Gr w v3 ∧ True) := ⟨HP2.out.1.trans hg, trivial⟩; clear hg))
    go_ret
    exact ⟨rfl, HP3.out.1⟩
  have hs4' : ¬ (400 : Int) < ((S.length : Nat) : Int) := by omega
  have oka : ∀ p ∈ a, paOk p ∧ p.2.2.size ≤ 10000 := fun p hp => ⟨oa p hp, by have := fa p hp; unfold paFew at this; omega⟩
  have cK : ∀ w1, Gr w w1 → Hid (Calls Tryd.prog 17 #[.slice A1 a.length cap1] w1 fun r w' => r = .returned (.tuple #[.string (keyAns a).1, .int .i64 (keyAns a).2]) ∧ Gr w1 w') :=
    fun w1 hg => or_keyP A1 cap1 a h1 hm1 oka w1 (HML.out w1 hg) (HX.out.1.gr hg)
  have cT := fun w1 (hg : Gr w w1) => Lib.hid (to_as A1 cap1 a h1 hm1 (by omega) w1 (HX.out.1.gr hg))
  have cRK : ∀ A cap w1, a.length ≤ cap → cap ≤ maxLen → SliceAt w1 A 3 paCell a → Hid (Calls Tryd.prog 12 #[.slice A a.length cap] w1 fun r w' => r = .returned (.tuple #[.string (keyAns a).1, .int .i64 (keyAns a).2]) ∧ Gr w1 w') :=
    fun A cap w1 g1 g2 g3 => r4_key A cap a g1 g2 oka w1 g3
  obtain ⟨xs, pe, hP, hpe, hxs⟩ := pars_some S
  have cP := fun w1 => Lib.hid (parts_as hP hSm.out w1)
  have cRP := fun w1 => Lib.hid (rparts_as hP hSm.out w1)
  have cAf := fun w1 => Lib.hid (or_after S (by omega) w1)
  have cRAf := fun w1 => Lib.hid (r4_after S (by omega) w1)
  have cNx := fun w1 => Lib.hid (or_next (B S) (by omega) w1)
  have cSt := fun w1 => Lib.hid (or_str (B S) w1)
  have hke := key_e a
  have cPa := fun w1 (hg : Gr w w1) => Lib.hid (plain_as A1 cap1 a h1 hm1 (by omega) w1 (HX.out.1.gr hg))
  have cPa2 := fun w1 (hg : Gr w w1) => Lib.hid (plain_as A1 cap1 a h1 hm1 (by omega) w1 (HX.out.1.gr hg))
  have cPb := fun w1 (hg : Gr w w1) => Lib.hid (plain_as A2 cap2 b h2 hm2 (by omega) w1 (HX.out.2.gr hg))
  have cPb2 := fun w1 (hg : Gr w w1) => Lib.hid (plain_as A2 cap2 b h2 hm2 (by omega) w1 (HX.out.2.gr hg))
  have cTc := fun A cap h1 h2 w1 h => Lib.hid (to_as A cap (a.map paP) h1 h2 (by rw [List.length_map]; omega) w1 h)
  have cTd := fun A cap h1 h2 w1 h => Lib.hid (to_as A cap (b.map paP) h1 h2 (by rw [List.length_map]; omega) w1 h)
  have ca := canOk_P oa
  have cb := canOk_P ob
  have cL := fun A1 A2 cap1 cap2 h1 h2 h3 h4 w1 h5 h6 => Lib.hid (or_less A1 A2 cap1 cap2 (a.map paP) (b.map paP) h1 h2 h3 h4 (fun p hp => (ca p hp).1) (fun p hp => (cb p hp).1) w1 h5 h6)
  have cRL := fun A1 A2 cap1 cap2 h1 h2 h3 h4 w1 h5 h6 => Lib.hid (r4_less A1 A2 cap1 cap2 (a.map paP) (b.map paP) h1 h2 h3 h4 (fun p hp => (ca p hp).1) (fun p hp => (cb p hp).1) w1 h5 h6)
  clear ca cb hP oka oa ob fa fb hs4
  generalize a.map paP = c at *
  generalize b.map paP = d at *
  generalize rowLt c d = lt at *
  generalize (keyAns a).1 = kk at *
  generalize (keyAns a).2 = ke at *
  generalize (aftAns S).1 = ax at *
  generalize (aftAns S).2 = ay at *
  have hno : ¬ (9223372036854775807 < S.length + 1) := by omega
  go_enter Tryd.func7, Tryd.ntmps7
  go_wp2_with (first
    | (go_at_call 14; refine (cA _).out.mono ?_; clear cA; rintro r v1 ⟨rfl, hg⟩; have HP1 : Hid (Gr w v1 ∧ True) := ⟨hg, trivial⟩; clear hg)
    | (go_at_call_of 15 (Value.slice A1 a.length cap1); refine (cLa _ HP1.out.1).out.mono ?_; clear cLa; rintro r v2 ⟨rfl, hg⟩; have HP2 : Hid (Gr w v2 ∧ True) := ⟨HP1.out.1.trans hg, trivial⟩; clear hg)
    | (go_at_call_of 15 (Value.slice A2 b.length cap2); refine (cLb _ HP2.out.1).out.mono ?_; clear cLb; rintro r v3 ⟨rfl, hg⟩; have HP3 : Hid (Gr w v3 ∧ True) := ⟨HP2.out.1.trans hg, trivial⟩; clear hg)
    | (go_at_call 17; refine (cK _ HP3.out.1).out.mono ?_; clear cK; rintro r v4 ⟨rfl, hg⟩; have HP4 : Hid (Gr w v4 ∧ True) := ⟨HP3.out.1.trans hg, trivial⟩; clear hg)
    | (go_at_call_of 23 (Value.slice A1 a.length cap1); refine (cT _ HP4.out.1).out.mono ?_; clear cT; rintro r v5 ⟨B0, n0, rfl, hs, h1, h2, hg⟩; have HP5 : Hid (Gr w v5 ∧ SliceAt v5 B0 3 paCell a) := ⟨HP4.out.1.trans hg, hs⟩; have HB0 := Lib.hid (And.intro h1 h2); clear h1 h2; clear hg hs)
    | (go_at_call 12; refine (cRK B0 n0 _ HB0.out.1 HB0.out.2 HP5.out.2).out.mono ?_; clear cRK; rintro r v6 ⟨rfl, hg⟩; have HP6 : Hid (Gr w v6 ∧ SliceAt v6 B0 3 paCell a) := ⟨HP5.out.1.trans hg, (HP5.out.2.gr hg)⟩; clear hg)
    | (go_at_call 22; refine (cP _).out.mono ?_; clear cP; rintro r v7 ⟨B1, n1, rfl, hs, h1, h2, hg⟩; have HP7 : Hid (Gr w v7 ∧ SliceAt v7 B0 3 paCell a ∧ SliceAt v7 B1 3 paCell xs) := ⟨HP6.out.1.trans hg, (HP6.out.2.gr hg), hs⟩; have HB1 := Lib.hid (And.intro h1 h2); clear h1 h2; clear hg hs)
    | (go_at_call 24; refine (cRP _).out.mono ?_; clear cRP; rintro r v8 ⟨B2, n2, rfl, hs, h1, h2, hg⟩; have HP8 : Hid (Gr w v8 ∧ SliceAt v8 B0 3 paCell a ∧ SliceAt v8 B1 3 paCell xs ∧ SliceAt v8 B2 3 paCell xs) := ⟨HP7.out.1.trans hg, (HP7.out.2.1.gr hg), (HP7.out.2.2.gr hg), hs⟩; have HB2 := Lib.hid (And.intro h1 h2); clear h1 h2; clear hg hs)
    | (go_at_call 20; refine (cAf _).out.mono ?_; clear cAf; rintro r v9 ⟨rfl, hg⟩; have HP9 : Hid (Gr w v9 ∧ SliceAt v9 B0 3 paCell a ∧ SliceAt v9 B1 3 paCell xs ∧ SliceAt v9 B2 3 paCell xs) := ⟨HP8.out.1.trans hg, (HP8.out.2.1.gr hg), (HP8.out.2.2.1.gr hg), (HP8.out.2.2.2.gr hg)⟩; clear hg)
    | (go_at_call 25; refine (cRAf _).out.mono ?_; clear cRAf; rintro r v10 ⟨rfl, hg⟩; have HP10 : Hid (Gr w v10 ∧ SliceAt v10 B0 3 paCell a ∧ SliceAt v10 B1 3 paCell xs ∧ SliceAt v10 B2 3 paCell xs) := ⟨HP9.out.1.trans hg, (HP9.out.2.1.gr hg), (HP9.out.2.2.1.gr hg), (HP9.out.2.2.2.gr hg)⟩; clear hg)
    | (go_at_call 21; refine (cNx _).out.mono ?_; clear cNx; rintro r vn ⟨rfl, rfl⟩)
    | (go_at_call 26; refine (cSt _).out.mono ?_; clear cSt; rintro r v11 ⟨rfl, hg⟩; have HP11 : Hid (Gr w v11 ∧ SliceAt v11 B0 3 paCell a ∧ SliceAt v11 B1 3 paCell xs ∧ SliceAt v11 B2 3 paCell xs) := ⟨HP10.out.1.trans hg, (HP10.out.2.1.gr hg), (HP10.out.2.2.1.gr hg), (HP10.out.2.2.2.gr hg)⟩; clear hg))
  have hxl : xs.length ≤ 255 := hxs
  clear hno hpe hke hs4' zS
  go_loopw [112] (fun i wr => ∃ k : Nat, k ≤ xs.length ∧ i = .int .i64 (k : Nat) ∧ Hid (Gr v11 wr)) (fun i _ => xs.length - (intOf i).toNat)
  case atStart => exact ⟨0, by omega, rfl, Gr.refl _⟩
  case round =>
    obtain ⟨k, hk, rfl, HR⟩ := hrel
    by_cases hlt : k < xs.length
    · rcases HP11.out.2.2.1 with h0 | ⟨x, off, rfl, hcell⟩
      · subst h0; simp at hlt
      rcases HP11.out.2.2.2 with h0 | ⟨y, off2, rfl, hcell2⟩
      · subst h0; simp at hlt
      have hget := List.getElem?_eq_getElem hlt
      generalize xs[k] = p at *
      obtain ⟨p0, p1, p2⟩ := p
      have a0 := HR.out.cells (hcell k _ hget 0 _ rfl)
      have a1 := HR.out.cells (hcell k _ hget 1 _ rfl)
      have a2 := HR.out.cells (hcell k _ hget 2 _ rfl)
      have b0 := HR.out.cells (hcell2 k _ hget 0 _ rfl)
      have b1 := HR.out.cells (hcell2 k _ hget 1 _ rfl)
      have b2 := HR.out.cells (hcell2 k _ hget 2 _ rfl)
      simp only [Nat.add_zero] at a0 b0
      clear hcell hcell2 hget
      have HT : Hid (Gr v11 wr.drew) := HR.out.drew
      go_wp2
      go_region
      go_wp2
      go_roundw
      case rel => exact ⟨k + 1, by omega, by go_num, HT⟩
      case measure => simp [intOf]; omega
    · obtain rfl : k = xs.length := by omega
      have HL : Hid (Gr w wr ∧ True) := ⟨HP11.out.1.trans HR.out, trivial⟩
      clear hlt
      go_wp2_with (first
        | (go_at_call_of 16 (Value.slice A1 a.length cap1); refine (cPa _ HL.out.1).out.mono ?_; clear cPa; rintro r v21 ⟨B3, n3, rfl, hs, h1, h2, hg⟩; have HP21 : Hid (Gr w v21 ∧ SliceAt v21 B3 3 paCell c) := ⟨HL.out.1.trans hg, hs⟩; have HB3 := Lib.hid (And.intro h1 h2); clear h1 h2; clear hg hs)
        | (go_at_call_of 16 (Value.slice A2 b.length cap2); refine (cPb _ HP21.out.1).out.mono ?_; clear cPb; rintro r v22 ⟨B4, n4, rfl, hs, h1, h2, hg⟩; have HP22 : Hid (Gr w v22 ∧ SliceAt v22 B3 3 paCell c ∧ SliceAt v22 B4 3 paCell d) := ⟨HP21.out.1.trans hg, (HP21.out.2.gr hg), hs⟩; have HB4 := Lib.hid (And.intro h1 h2); clear h1 h2; clear hg hs)
        | (go_at_call 19; refine (cL B3 B4 n3 n4 HB3.out.1 HB4.out.1 HB3.out.2 HB4.out.2 _ HP22.out.2.1 HP22.out.2.2).out.mono ?_; clear cL; rintro r v23 ⟨rfl, hg⟩; have HP23 : Hid (Gr w v23 ∧ SliceAt v23 B3 3 paCell c ∧ SliceAt v23 B4 3 paCell d) := ⟨HP22.out.1.trans hg, (HP22.out.2.1.gr hg), (HP22.out.2.2.gr hg)⟩; clear hg)
        | (go_at_call_of 16 (Value.slice A1 a.length cap1); refine (cPa2 _ HP23.out.1).out.mono ?_; clear cPa2; rintro r v24 ⟨B5, n5, rfl, hs, h1, h2, hg⟩; have HP24 : Hid (Gr w v24 ∧ SliceAt v24 B5 3 paCell c) := ⟨HP23.out.1.trans hg, hs⟩; have HB5 := Lib.hid (And.intro h1 h2); clear h1 h2; clear hg hs)
        | (go_at_call_of 23 (Value.slice B5 c.length n5); refine (cTc B5 n5 HB5.out.1 HB5.out.2 _ HP24.out.2).out.mono ?_; clear cTc; rintro r v25 ⟨B6, n6, rfl, hs, h1, h2, hg⟩; have HP25 : Hid (Gr w v25 ∧ SliceAt v25 B5 3 paCell c ∧ SliceAt v25 B6 3 paCell c) := ⟨HP24.out.1.trans hg, (HP24.out.2.gr hg), hs⟩; have HB6 := Lib.hid (And.intro h1 h2); clear h1 h2; clear hg hs)
        | (go_at_call_of 16 (Value.slice A2 b.length cap2); refine (cPb2 _ HP25.out.1).out.mono ?_; clear cPb2; rintro r v26 ⟨B7, n7, rfl, hs, h1, h2, hg⟩; have HP26 : Hid (Gr w v26 ∧ SliceAt v26 B5 3 paCell c ∧ SliceAt v26 B6 3 paCell c ∧ SliceAt v26 B7 3 paCell d) := ⟨HP25.out.1.trans hg, (HP25.out.2.1.gr hg), (HP25.out.2.2.gr hg), hs⟩; have HB7 := Lib.hid (And.intro h1 h2); clear h1 h2; clear hg hs)
        | (go_at_call_of 23 (Value.slice B7 d.length n7); refine (cTd B7 n7 HB7.out.1 HB7.out.2 _ HP26.out.2.2.2).out.mono ?_; clear cTd; rintro r v27 ⟨B8, n8, rfl, hs, h1, h2, hg⟩; have HP27 : Hid (Gr w v27 ∧ SliceAt v27 B5 3 paCell c ∧ SliceAt v27 B6 3 paCell c ∧ SliceAt v27 B7 3 paCell d ∧ SliceAt v27 B8 3 paCell d) := ⟨HP26.out.1.trans hg, (HP26.out.2.1.gr hg), (HP26.out.2.2.1.gr hg), (HP26.out.2.2.2.gr hg), hs⟩; have HB8 := Lib.hid (And.intro h1 h2); clear h1 h2; clear hg hs)
        | (go_at_call 27; refine (cRL B6 B8 n6 n8 HB6.out.1 HB8.out.1 HB6.out.2 HB8.out.2 _ HP27.out.2.2.1 HP27.out.2.2.2.2).out.mono ?_; clear cRL; rintro r v28 ⟨rfl, hg⟩; have HP28 : Hid (Gr w v28 ∧ SliceAt v28 B5 3 paCell c ∧ SliceAt v28 B6 3 paCell c ∧ SliceAt v28 B7 3 paCell d ∧ SliceAt v28 B8 3 paCell d) := ⟨HP27.out.1.trans hg, (HP27.out.2.1.gr hg), (HP27.out.2.2.1.gr hg), (HP27.out.2.2.2.1.gr hg), (HP27.out.2.2.2.2.gr hg)⟩; clear hg))
      go_ret
      exact ⟨rfl, HP28.out.1⟩
end Go.Proofs.YtckklikfikeokaaDoor
