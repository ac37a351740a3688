/- The law OrderKeeps, walked (printed by ordkeeps_gen.py). -/
import Derived.Test.YtckklikfikeokaaDoorOrdW4
import Derived.Test.YtckklikfikeokaaDoorOrdHp
namespace Go.Proofs.YtckklikfikeokaaDoor
open Go.RowKit
set_option linter.unusedVariables false
set_option linter.unusedSimpArgs false
set_option maxRecDepth 100000
set_option maxHeartbeats 4000000
theorem paP_ok {p : Pa} (h : paOk p) : paOk (paP p) := by
  obtain ⟨t, n, s⟩ := p
  cases t
  · exact h
  · show (0 : Nat) < _; omega
theorem paP_few {p : Pa} (h : paFew p) : paFew (paP p) := by
  obtain ⟨t, n, s⟩ := p
  cases t
  · show (0 : Nat) ≤ _; omega
  · exact h
theorem paB_few {p : Pa} (h : paFew p) : (paB p).length ≤ 100000 := by
  obtain ⟨t, n, s⟩ := p
  unfold paFew at h
  simp only at h
  have h2 := esc_length s.data.toList
  have h3 : s.data.toList.length = s.size := by simp
  cases t <;> simp [paB, Oct.be_length] <;> omega
theorem SliceAt.take {α : Type} {w : World} {A : Option Addr} {n : Nat} {enc : α → List Value} {xs : List α} (h : SliceAt w A n enc xs) (k : Nat) : SliceAt w A n enc (xs.take k) := by
  rcases h with h | ⟨b, off, hA, hc⟩
  · subst h; exact .inl (by simp)
  · refine .inr ⟨b, off, hA, fun i x hx => hc i x ?_⟩
    rw [List.getElem?_take] at hx
    split at hx
    · exact hx
    · cases hx
theorem walk_OrderKeeps_ (A1 A2 : Option Addr) (cap1 cap2 : Nat) (a b : List Pa) (h1 : a.length ≤ cap1) (h2 : b.length ≤ cap2) (hm1 : cap1 ≤ maxLen) (hm2 : cap2 ≤ maxLen) (oa : ∀ p ∈ a, paOk p) (ob : ∀ p ∈ b, paOk p) (w : World) (hs1 : SliceAt w A1 3 paCell a) (hs2 : SliceAt w A2 3 paCell b)
    (hml : ∃ m, w.cell? ⟨0, 0, none⟩ = some (.int .i64 m)) :
    Calls Tryd.prog 4 #[.slice A1 a.length cap1, .slice A2 b.length cap2] w fun e w' => e = .returned (.bool true) ∧ Gr w w' := by
  have cA := fun w1 => Lib.hid (law04_awake w1)
  have cLa := fun w1 (h : SliceAt w1 A1 3 paCell a) => Lib.hid (law_light A1 cap1 a h1 hm1 w1 h)
  have cLb := fun w1 (h : SliceAt w1 A2 3 paCell b) => Lib.hid (law_light A2 cap2 b h2 hm2 w1 h)
  have HX := Lib.hid (And.intro hs1 hs2)
  have HML : Hid (∀ W, Gr w W → ∃ m, W.cell? ⟨0, 0, none⟩ = some (.int .i64 m)) := fun W hg => by obtain ⟨m, hm⟩ := hml; exact ⟨m, hg.cells hm⟩
  clear hs1 hs2 hml
  by_cases hla : lightB a = true
  case neg =>
    have hla2 : lightB a = false := by simpa using hla
    rw [hla2] at cLa
    clear hla hla2
    go_enter Tryd.func4, Tryd.ntmps4
    go_wp2_with (first
      | (go_at_call 14; refine (cA _).out.mono ?_; clear cA; rintro r v1 ⟨rfl, hg⟩; have HG1 : Hid (Gr w v1) := hg; clear hg)
      | (go_at_call 15; refine (cLa _ (HX.out.1.gr HG1.out)).out.mono ?_; clear cLa; rintro r v2 ⟨rfl, hg⟩; have HG2 : Hid (Gr w v2) := HG1.out.trans hg; clear hg))
    go_ret
    exact ⟨rfl, HG2.out⟩
  rw [hla] at cLa
  by_cases hlb : lightB b = true
  case neg =>
    have hlb2 : lightB b = false := by simpa using hlb
    rw [hlb2] at cLb
    clear hlb hlb2 hla
    go_enter Tryd.func4, Tryd.ntmps4
    go_wp2_with (first
      | (go_at_call 14; refine (cA _).out.mono ?_; clear cA; rintro r v1 ⟨rfl, hg⟩; have HG1 : Hid (Gr w v1) := hg; clear hg)
      | (go_at_call 15; refine (cLa _ (HX.out.1.gr HG1.out)).out.mono ?_; clear cLa; rintro r v2 ⟨rfl, hg⟩; have HG2 : Hid (Gr w v2) := HG1.out.trans hg; clear hg)
      | (go_at_call 15; refine (cLb _ (HX.out.2.gr HG2.out)).out.mono ?_; clear cLb; rintro r v3 ⟨rfl, hg⟩; have HG3 : Hid (Gr w v3) := HG2.out.trans hg; clear hg))
    go_ret
    exact ⟨rfl, HG3.out⟩
  rw [hlb] at cLb
  obtain ⟨la, fa⟩ := lightB_true hla
  obtain ⟨lb, fb⟩ := lightB_true hlb
  have cPa := fun w1 (h : SliceAt w1 A1 3 paCell a) => Lib.hid (law_plain A1 cap1 a h1 hm1 (by omega) w1 h)
  have cPb := fun w1 (h : SliceAt w1 A2 3 paCell b) => Lib.hid (law_plain A2 cap2 b h2 hm2 (by omega) w1 h)
  have PA : Hid (∀ p ∈ a.map paP, isPlain p ∧ paOk p ∧ paFew p) := by
    intro p hp
    obtain ⟨q, hq, rfl⟩ := List.mem_map.1 hp
    exact ⟨paP_plain q, paP_ok (oa q hq), paP_few (fa q hq)⟩
  have PB : Hid (∀ p ∈ b.map paP, isPlain p ∧ paOk p ∧ paFew p) := by
    intro p hp
    obtain ⟨q, hq, rfl⟩ := List.mem_map.1 hp
    exact ⟨paP_plain q, paP_ok (ob q hq), paP_few (fb q hq)⟩
  have zla : (a.map paP).length ≤ 40 := by rw [List.length_map]; exact la
  have zlb : (b.map paP).length ≤ 40 := by rw [List.length_map]; exact lb
  clear oa ob fa fb la lb hla hlb
  generalize a.map paP = c at *
  generalize b.map paP = d at *
  have cKc := fun A cap h1 h2 w1 h (hg : Gr w w1) => Lib.hid (or_key A cap c h1 h2 (fun p hp => paB_few (PA.out p hp).2.2) w1 h (fun p hp W hW => pa_bytes p (PA.out p hp).2.1 (by have := (PA.out p hp).2.2; unfold paFew at this; omega) W (HML.out W (hg.trans hW))))
  have cKd := fun A cap h1 h2 w1 h (hg : Gr w w1) => Lib.hid (or_key A cap d h1 h2 (fun p hp => paB_few (PB.out p hp).2.2) w1 h (fun p hp W hW => pa_bytes p (PB.out p hp).2.1 (by have := (PB.out p hp).2.2; unfold paFew at this; omega) W (HML.out W (hg.trans hW))))
  have cL := fun A1 A2 cap1 cap2 h1 h2 h3 h4 w1 h5 h6 => Lib.hid (or_less A1 A2 cap1 cap2 c d h1 h2 h3 h4 (fun p hp => (PA.out p hp).1) (fun p hp => (PB.out p hp).1) w1 h5 h6)
  have hord := key_order c d (fun p hp => ⟨(PA.out p hp).1, (PA.out p hp).2.1⟩) (fun p hp => ⟨(PB.out p hp).1, (PB.out p hp).2.1⟩)
  have HO := Lib.hid hord
  clear hord
  by_cases hkc : 255 < (keyB c).length
  case pos =>
    have hka : keyAns c = (.empty, 5) := by unfold keyAns; rw [if_pos hkc]
    rw [hka] at cKc
    clear hka hkc
    simp only at cKc
    obtain ⟨kd, hkd⟩ : ∃ k, k = keyAns d := ⟨_, rfl⟩
    rw [← hkd] at cKd
    clear hkd
    go_enter Tryd.func4, Tryd.ntmps4
    go_wp2_with (first
      | (go_at_call 14; refine (cA _).out.mono ?_; clear cA; rintro r v1 ⟨rfl, hg⟩; have HG1 : Hid (Gr w v1) := hg; clear hg)
      | (go_at_call 15; refine (cLa _ (HX.out.1.gr HG1.out)).out.mono ?_; clear cLa; rintro r v2 ⟨rfl, hg⟩; have HG2 : Hid (Gr w v2) := HG1.out.trans hg; clear hg)
      | (go_at_call 15; refine (cLb _ (HX.out.2.gr HG2.out)).out.mono ?_; clear cLb; rintro r v3 ⟨rfl, hg⟩; have HG3 : Hid (Gr w v3) := HG2.out.trans hg; clear hg)
      | (go_at_call 16; refine (cPa _ (HX.out.1.gr HG3.out)).out.mono ?_; clear cPa; rintro r v4 ⟨B1, bc1, rfl, ho, hg⟩; have HP1 : Hid (Gr w v4 ∧ SliceAt v4 B1 3 paCell c ∧ c.length ≤ bc1 ∧ bc1 ≤ maxLen) := ⟨HG3.out.trans hg, ho.slice (fun _ => rfl), ho.cap_le.1, ho.cap_le.2⟩; clear ho hg)
      | (go_at_call 16; refine (cPb _ (HX.out.2.gr HP1.out.1)).out.mono ?_; clear cPb; rintro r v5 ⟨B2, bc2, rfl, ho, hg⟩; have HP2 : Hid (Gr w v5 ∧ SliceAt v5 B1 3 paCell c ∧ SliceAt v5 B2 3 paCell d ∧ d.length ≤ bc2 ∧ bc2 ≤ maxLen) := ⟨HP1.out.1.trans hg, HP1.out.2.1.gr hg, ho.slice (fun _ => rfl), ho.cap_le.1, ho.cap_le.2⟩; clear ho hg)
      | (go_at_call 17; refine (cKc B1 bc1 HP1.out.2.2.1 HP1.out.2.2.2 _ HP2.out.2.1 HP2.out.1).out.mono ?_; clear cKc; rintro r v6 ⟨rfl, hg⟩; have HP3 : Hid (Gr w v6 ∧ SliceAt v6 B1 3 paCell c ∧ SliceAt v6 B2 3 paCell d) := ⟨HP2.out.1.trans hg, HP2.out.2.1.gr hg, HP2.out.2.2.1.gr hg⟩; clear hg)
      | (go_at_call 17; refine (cKd B2 bc2 HP2.out.2.2.2.1 HP2.out.2.2.2.2 _ HP3.out.2.2 HP3.out.1).out.mono ?_; clear cKd; rintro r v7 ⟨rfl, hg⟩; have HP4 : Hid (Gr w v7 ∧ SliceAt v7 B1 3 paCell c ∧ SliceAt v7 B2 3 paCell d) := ⟨HP3.out.1.trans hg, HP3.out.2.1.gr hg, HP3.out.2.2.gr hg⟩; clear hg))
    go_ret
    exact ⟨rfl, HP4.out.1⟩
  have hka : keyAns c = (B (keyB c), 0) := by unfold keyAns; rw [if_neg hkc]
  rw [hka] at cKc
  clear hka
  simp only at cKc
  by_cases hkd : 255 < (keyB d).length
  case pos =>
    have hka : keyAns d = (.empty, 5) := by unfold keyAns; rw [if_pos hkd]
    rw [hka] at cKd
    clear hka hkd
    simp only at cKd
    go_enter Tryd.func4, Tryd.ntmps4
    go_wp2_with (first
      | (go_at_call 14; refine (cA _).out.mono ?_; clear cA; rintro r v1 ⟨rfl, hg⟩; have HG1 : Hid (Gr w v1) := hg; clear hg)
      | (go_at_call 15; refine (cLa _ (HX.out.1.gr HG1.out)).out.mono ?_; clear cLa; rintro r v2 ⟨rfl, hg⟩; have HG2 : Hid (Gr w v2) := HG1.out.trans hg; clear hg)
      | (go_at_call 15; refine (cLb _ (HX.out.2.gr HG2.out)).out.mono ?_; clear cLb; rintro r v3 ⟨rfl, hg⟩; have HG3 : Hid (Gr w v3) := HG2.out.trans hg; clear hg)
      | (go_at_call 16; refine (cPa _ (HX.out.1.gr HG3.out)).out.mono ?_; clear cPa; rintro r v4 ⟨B1, bc1, rfl, ho, hg⟩; have HP1 : Hid (Gr w v4 ∧ SliceAt v4 B1 3 paCell c ∧ c.length ≤ bc1 ∧ bc1 ≤ maxLen) := ⟨HG3.out.trans hg, ho.slice (fun _ => rfl), ho.cap_le.1, ho.cap_le.2⟩; clear ho hg)
      | (go_at_call 16; refine (cPb _ (HX.out.2.gr HP1.out.1)).out.mono ?_; clear cPb; rintro r v5 ⟨B2, bc2, rfl, ho, hg⟩; have HP2 : Hid (Gr w v5 ∧ SliceAt v5 B1 3 paCell c ∧ SliceAt v5 B2 3 paCell d ∧ d.length ≤ bc2 ∧ bc2 ≤ maxLen) := ⟨HP1.out.1.trans hg, HP1.out.2.1.gr hg, ho.slice (fun _ => rfl), ho.cap_le.1, ho.cap_le.2⟩; clear ho hg)
      | (go_at_call 17; refine (cKc B1 bc1 HP1.out.2.2.1 HP1.out.2.2.2 _ HP2.out.2.1 HP2.out.1).out.mono ?_; clear cKc; rintro r v6 ⟨rfl, hg⟩; have HP3 : Hid (Gr w v6 ∧ SliceAt v6 B1 3 paCell c ∧ SliceAt v6 B2 3 paCell d) := ⟨HP2.out.1.trans hg, HP2.out.2.1.gr hg, HP2.out.2.2.1.gr hg⟩; clear hg)
      | (go_at_call 17; refine (cKd B2 bc2 HP2.out.2.2.2.1 HP2.out.2.2.2.2 _ HP3.out.2.2 HP3.out.1).out.mono ?_; clear cKd; rintro r v7 ⟨rfl, hg⟩; have HP4 : Hid (Gr w v7 ∧ SliceAt v7 B1 3 paCell c ∧ SliceAt v7 B2 3 paCell d) := ⟨HP3.out.1.trans hg, HP3.out.2.1.gr hg, HP3.out.2.2.gr hg⟩; clear hg))
    go_ret
    exact ⟨rfl, HP4.out.1⟩
  have hka : keyAns d = (B (keyB d), 0) := by unfold keyAns; rw [if_neg hkd]
  rw [hka] at cKd
  clear hka
  simp only at cKd
  have HLT : Hid (Op.bytesLess (B (keyB c)).toList (B (keyB d)).toList = rowLt c d) := by
    unfold Hid; rw [bl_of, Bool.eq_iff_iff, decide_eq_true_iff]; exact HO.out.1
  obtain ⟨eqv, heqv⟩ : ∃ v : Bool, v = true ↔ c = d := ⟨open Classical in decide (c = d), by simp⟩
  obtain ⟨pf, hpf⟩ : ∃ v : Bool, v = true ↔ c <+: d := ⟨open Classical in decide (c <+: d), by simp⟩
  have hEQ : ((B (keyB c)).toList == (B (keyB d)).toList) = eqv := by
    rw [Bool.eq_iff_iff, heqv, ← HO.out.2.1, beq_iff_eq, ByteArray.toList_eq, ByteArray.toList_eq]
    exact Iff.rfl
  have cS := fun A1 A2 cap1 cap2 h1 h2 h3 h4 w1 h5 h6 => Lib.hid (law_same A1 A2 cap1 cap2 c d h1 h2 h3 h4 eqv heqv w1 h5 h6)
  have cH := fun w1 => Lib.hid (or_hasPrefix (keyB d) (keyB c) pf (hpf.trans HO.out.2.2.symm) w1)
  have hlt := HLT.out
  clear HLT
  generalize rowLt c d = lt at *
  generalize B (keyB c) = kc at *
  generalize B (keyB d) = kd at *
  by_cases hll : c.length ≤ d.length
  · have hll2 : ((c.length : Nat) : Int) ≤ ((d.length : Nat) : Int) := by omega
    have hmin : min ((c.length : Nat) : Int) ((d.length : Nat) : Int) = ((c.length : Nat) : Int) := by omega
    have htl : (d.take c.length).length = c.length := by rw [List.length_take]; omega
    have cT := fun A1 A2 cap1 cap2 h1 h2 h3 h4 w1 h5 h6 => Lib.hid (law_same A1 A2 cap1 cap2 c (d.take c.length) h1 h2 h3 h4 pf (by
      rw [hpf]
      constructor
      · rintro ⟨t, rfl⟩; rw [List.take_left]
      · intro h; rw [h]; exact List.take_prefix _ _) w1 h5 h6)
    rw [htl] at cT
    have HTL := Lib.hid htl
    clear htl hkc hkd HO heqv hpf
    go_enter Tryd.func4, Tryd.ntmps4
    go_wp2_with (first
      | (go_at_call 14; refine (cA _).out.mono ?_; clear cA; rintro r v1 ⟨rfl, hg⟩; have HG1 : Hid (Gr w v1) := hg; clear hg)
      | (go_at_call 15; refine (cLa _ (HX.out.1.gr HG1.out)).out.mono ?_; clear cLa; rintro r v2 ⟨rfl, hg⟩; have HG2 : Hid (Gr w v2) := HG1.out.trans hg; clear hg)
      | (go_at_call 15; refine (cLb _ (HX.out.2.gr HG2.out)).out.mono ?_; clear cLb; rintro r v3 ⟨rfl, hg⟩; have HG3 : Hid (Gr w v3) := HG2.out.trans hg; clear hg)
      | (go_at_call 16; refine (cPa _ (HX.out.1.gr HG3.out)).out.mono ?_; clear cPa; rintro r v4 ⟨B1, bc1, rfl, ho, hg⟩; have HP1 : Hid (Gr w v4 ∧ SliceAt v4 B1 3 paCell c ∧ c.length ≤ bc1 ∧ bc1 ≤ maxLen) := ⟨HG3.out.trans hg, ho.slice (fun _ => rfl), ho.cap_le.1, ho.cap_le.2⟩; clear ho hg)
      | (go_at_call 16; refine (cPb _ (HX.out.2.gr HP1.out.1)).out.mono ?_; clear cPb; rintro r v5 ⟨B2, bc2, rfl, ho, hg⟩; have HP2 : Hid (Gr w v5 ∧ SliceAt v5 B1 3 paCell c ∧ SliceAt v5 B2 3 paCell d ∧ d.length ≤ bc2 ∧ bc2 ≤ maxLen) := ⟨HP1.out.1.trans hg, HP1.out.2.1.gr hg, ho.slice (fun _ => rfl), ho.cap_le.1, ho.cap_le.2⟩; clear ho hg; have hb2 : ((c.length : Nat) : Int) ≤ (bc2 : Int) := (by have := HP2.out.2.2.2.1; omega))
      | (go_at_call 17; refine (cKc B1 bc1 HP1.out.2.2.1 HP1.out.2.2.2 _ HP2.out.2.1 HP2.out.1).out.mono ?_; clear cKc; rintro r v6 ⟨rfl, hg⟩; have HP3 : Hid (Gr w v6 ∧ SliceAt v6 B1 3 paCell c ∧ SliceAt v6 B2 3 paCell d) := ⟨HP2.out.1.trans hg, HP2.out.2.1.gr hg, HP2.out.2.2.1.gr hg⟩; clear hg)
      | (go_at_call 17; refine (cKd B2 bc2 HP2.out.2.2.2.1 HP2.out.2.2.2.2 _ HP3.out.2.2 HP3.out.1).out.mono ?_; clear cKd; rintro r v7 ⟨rfl, hg⟩; have HP4 : Hid (Gr w v7 ∧ SliceAt v7 B1 3 paCell c ∧ SliceAt v7 B2 3 paCell d) := ⟨HP3.out.1.trans hg, HP3.out.2.1.gr hg, HP3.out.2.2.gr hg⟩; clear hg)
      | (go_at_call 18; refine (cT B1 B2 bc1 bc2 HP1.out.2.2.1 (by have := HP2.out.2.2.2.1; omega) HP1.out.2.2.2 HP2.out.2.2.2.2 _ HP4.out.2.1 (HP4.out.2.2.take _)).out.mono ?_; clear cT; rintro r v8 ⟨rfl, hg⟩; have HP5 : Hid (Gr w v8 ∧ SliceAt v8 B1 3 paCell c ∧ SliceAt v8 B2 3 paCell d) := ⟨HP4.out.1.trans hg, HP4.out.2.1.gr hg, HP4.out.2.2.gr hg⟩; clear hg)
      | (go_at_call 19; refine (cL B1 B2 bc1 bc2 HP1.out.2.2.1 HP2.out.2.2.2.1 HP1.out.2.2.2 HP2.out.2.2.2.2 _ HP5.out.2.1 HP5.out.2.2).out.mono ?_; clear cL; rintro r v9 ⟨rfl, hg⟩; have HP6 : Hid (Gr w v9 ∧ SliceAt v9 B1 3 paCell c ∧ SliceAt v9 B2 3 paCell d) := ⟨HP5.out.1.trans hg, HP5.out.2.1.gr hg, HP5.out.2.2.gr hg⟩; clear hg)
      | (go_at_call 18; refine (cS B1 B2 bc1 bc2 HP1.out.2.2.1 HP2.out.2.2.2.1 HP1.out.2.2.2 HP2.out.2.2.2.2 _ HP6.out.2.1 HP6.out.2.2).out.mono ?_; clear cS; rintro r va ⟨rfl, hg⟩; have HP7 : Hid (Gr w va) := HP6.out.1.trans hg; clear hg)
      | (go_at_call 13; refine (cH _).out.mono ?_; clear cH; rintro r vb ⟨rfl, rfl⟩))
    go_ret
    exact ⟨rfl, HP7.out⟩
  · have hll2 : ¬ ((c.length : Nat) : Int) ≤ ((d.length : Nat) : Int) := by omega
    have hpff : pf = false := by
      cases pf with
      | false => rfl
      | true => exact absurd (hpf.1 rfl).length_le hll
    subst hpff
    clear hkc hkd HO heqv hpf
    go_enter Tryd.func4, Tryd.ntmps4
    go_wp2_with (first
      | (go_at_call 14; refine (cA _).out.mono ?_; clear cA; rintro r v1 ⟨rfl, hg⟩; have HG1 : Hid (Gr w v1) := hg; clear hg)
      | (go_at_call 15; refine (cLa _ (HX.out.1.gr HG1.out)).out.mono ?_; clear cLa; rintro r v2 ⟨rfl, hg⟩; have HG2 : Hid (Gr w v2) := HG1.out.trans hg; clear hg)
      | (go_at_call 15; refine (cLb _ (HX.out.2.gr HG2.out)).out.mono ?_; clear cLb; rintro r v3 ⟨rfl, hg⟩; have HG3 : Hid (Gr w v3) := HG2.out.trans hg; clear hg)
      | (go_at_call 16; refine (cPa _ (HX.out.1.gr HG3.out)).out.mono ?_; clear cPa; rintro r v4 ⟨B1, bc1, rfl, ho, hg⟩; have HP1 : Hid (Gr w v4 ∧ SliceAt v4 B1 3 paCell c ∧ c.length ≤ bc1 ∧ bc1 ≤ maxLen) := ⟨HG3.out.trans hg, ho.slice (fun _ => rfl), ho.cap_le.1, ho.cap_le.2⟩; clear ho hg)
      | (go_at_call 16; refine (cPb _ (HX.out.2.gr HP1.out.1)).out.mono ?_; clear cPb; rintro r v5 ⟨B2, bc2, rfl, ho, hg⟩; have HP2 : Hid (Gr w v5 ∧ SliceAt v5 B1 3 paCell c ∧ SliceAt v5 B2 3 paCell d ∧ d.length ≤ bc2 ∧ bc2 ≤ maxLen) := ⟨HP1.out.1.trans hg, HP1.out.2.1.gr hg, ho.slice (fun _ => rfl), ho.cap_le.1, ho.cap_le.2⟩; clear ho hg)
      | (go_at_call 17; refine (cKc B1 bc1 HP1.out.2.2.1 HP1.out.2.2.2 _ HP2.out.2.1 HP2.out.1).out.mono ?_; clear cKc; rintro r v6 ⟨rfl, hg⟩; have HP3 : Hid (Gr w v6 ∧ SliceAt v6 B1 3 paCell c ∧ SliceAt v6 B2 3 paCell d) := ⟨HP2.out.1.trans hg, HP2.out.2.1.gr hg, HP2.out.2.2.1.gr hg⟩; clear hg)
      | (go_at_call 17; refine (cKd B2 bc2 HP2.out.2.2.2.1 HP2.out.2.2.2.2 _ HP3.out.2.2 HP3.out.1).out.mono ?_; clear cKd; rintro r v7 ⟨rfl, hg⟩; have HP4 : Hid (Gr w v7 ∧ SliceAt v7 B1 3 paCell c ∧ SliceAt v7 B2 3 paCell d) := ⟨HP3.out.1.trans hg, HP3.out.2.1.gr hg, HP3.out.2.2.gr hg⟩; clear hg)
      | (go_at_call 19; refine (cL B1 B2 bc1 bc2 HP1.out.2.2.1 HP2.out.2.2.2.1 HP1.out.2.2.2 HP2.out.2.2.2.2 _ HP4.out.2.1 HP4.out.2.2).out.mono ?_; clear cL; rintro r v9 ⟨rfl, hg⟩; have HP6 : Hid (Gr w v9 ∧ SliceAt v9 B1 3 paCell c ∧ SliceAt v9 B2 3 paCell d) := ⟨HP4.out.1.trans hg, HP4.out.2.1.gr hg, HP4.out.2.2.gr hg⟩; clear hg)
      | (go_at_call 18; refine (cS B1 B2 bc1 bc2 HP1.out.2.2.1 HP2.out.2.2.2.1 HP1.out.2.2.2 HP2.out.2.2.2.2 _ HP6.out.2.1 HP6.out.2.2).out.mono ?_; clear cS; rintro r va ⟨rfl, hg⟩; have HP7 : Hid (Gr w va) := HP6.out.1.trans hg; clear hg)
      | (go_at_call 13; refine (cH _).out.mono ?_; clear cH; rintro r vb ⟨rfl, rfl⟩))
    go_ret
    exact ⟨rfl, HP7.out⟩
end Go.Proofs.YtckklikfikeokaaDoor
