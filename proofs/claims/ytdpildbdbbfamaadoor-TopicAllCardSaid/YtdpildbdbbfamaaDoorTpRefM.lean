/- Layer 20: the document's match. -/
import Derived.Deep.RegionLaw
import Derived.Test.YtdpildbdbbfamaaDoorTpRef
namespace Go.Proofs.YtdpildbdbbfamaaDoor
open Go.RowKit
set_option linter.unusedVariables false
set_option linter.unusedSimpArgs false
set_option maxRecDepth 100000
set_option maxHeartbeats 2000000
theorem drop_at {w : World} {A : Option Addr} {zs : List ByteArray} (k : Nat) (h : SliceAt w A 1 strCell' zs) : SliceAt w (Option.map (fun x => x.add k) A) 1 strCell' (zs.drop k) := by
  rcases h with rfl | ⟨b, off, rfl, hc⟩
  · exact .inl (by simp)
  · refine .inr ⟨b, off + k, ?_, fun j x hx t u hu => ?_⟩
    · show some (Addr.add ⟨b, off, none⟩ k) = _
      unfold Addr.add
      split <;> simp_all
    · rw [List.getElem?_drop] at hx
      have := hc (k + j) x hx t u hu
      rw [show off + k + j * 1 + t = off + (k + j) * 1 + t by omega]
      exact this
theorem tail_run {A : Option Addr} {n c : Nat} {zs : List ByteArray} (k : Nat) (hn : zs.length = n) (hk : k ≤ n) (hc : n ≤ c) (hcm : c ≤ maxLen) {w : World} (hs : SliceAt w A 1 strCell' zs) : ∃ A' c', (∀ w1, (Instr.slice 32 (.slice A n c) (some (.int .i64 (k : Nat))) none none).run Tryd.prog w1 = .ok (.slice A' (n - k) c') w1) ∧ SliceAt w A' 1 strCell' (zs.drop k) ∧ n - k ≤ c' ∧ c' ≤ maxLen := by
  have hk' : ((k : Nat) : Int) ≤ ((n : Nat) : Int) := by omega
  by_cases hck : c = k
  · refine ⟨A, 0, fun w1 => ?_, .inl (List.drop_eq_nil_of_le (by omega)), by omega, by decide⟩
    subst hck
    go_simp
  · refine ⟨Option.map (fun x => x.add k) A, c - k, fun w1 => ?_, drop_at k hs, by omega, by omega⟩
    go_simp
theorem hash_l (p : ByteArray) : isW p hashW = (p.toList == [35]) := by
  unfold isW hashW
  rw [ByteArray.toList_eq ⟨#[35]⟩]
theorem star_l (p : ByteArray) : isW p starW = (p.toList == [42]) := by
  unfold isW starW
  rw [ByteArray.toList_eq ⟨#[42]⟩]
theorem rf_match0 (ks : List ByteArray) (A A2 : Option Addr) (c c2 : Nat) (w : World) : Calls Tryd.prog 29 #[.slice A 0 c, .slice A2 ks.length c2] w fun r w' => r = .returned (.bool (mtL [] ks)) ∧ Gr w w' := by
  have hv : (((ks.length : Nat) : Int) == 0) = mtL [] ks := by
    cases ks with
    | nil => rfl
    | cons k ks => 
      show _ = false
      rw [beq_eq_false_iff_ne]
      simp
      omega
  generalize ks.length = n at *
  generalize mtL [] ks = v at *
  go_enter Tryd.func29, Tryd.ntmps29
  go_wp2
  go_ret
  exact ⟨rfl, Gr.refl _⟩
theorem rf_match1 (p : ByteArray) (ps ks : List ByteArray) (hlp : ps.length ≤ 4001) (hlk : ks.length ≤ 4001)
    (ih : ∀ (i : Nat) (A A2 : Option Addr) (c c2 : Nat) (w : World), ps.length ≤ c → c ≤ maxLen → (ks.drop i).length ≤ c2 → c2 ≤ maxLen → SliceAt w A 1 strCell' ps → SliceAt w A2 1 strCell' (ks.drop i) → Calls Tryd.prog 29 #[.slice A ps.length c, .slice A2 (ks.drop i).length c2] w fun r w' => r = .returned (.bool (mtL ps (ks.drop i))) ∧ Gr w w')
    (A A2 : Option Addr) (c c2 : Nat) (w : World) (hc : ps.length + 1 ≤ c) (hcm : c ≤ maxLen) (hc2 : ks.length ≤ c2) (hcm2 : c2 ≤ maxLen) (hs : SliceAt w A 1 strCell' (p :: ps)) (hs2 : SliceAt w A2 1 strCell' ks) :
    Calls Tryd.prog 29 #[.slice A (ps.length + 1) c, .slice A2 ks.length c2] w fun r w' => r = .returned (.bool (mtL (p :: ps) ks)) ∧ Gr w w' := by
  obtain ⟨PA, PC, hrP, hsP, hcP, hmP⟩ := tail_run 1 (n := ps.length + 1) (zs := p :: ps) rfl (by omega) hc hcm hs
  have HRP : ∀ w1, (Instr.slice 32 (.slice A (ps.length + 1) c) (some (.int .i64 1)) none none).run Tryd.prog w1 = .ok (.slice PA ps.length PC) w1 := fun w1 => hrP w1
  have HSP : Hid (SliceAt w PA 1 strCell' ps) := hsP
  clear hrP hsP
  have HS2 := Lib.hid hs2
  rcases hs with h0 | ⟨aA, oA', rfl, hcell⟩
  · cases h0
  have p0 := hcell 0 p rfl 0 _ rfl
  simp only [Nat.zero_mul, Nat.add_zero] at p0
  clear hcell hs2
  have hpl : (((ps.length : Nat) : Int) + 1 == 0) = false := by rw [beq_eq_false_iff_ne]; omega
  obtain ⟨ans, hans⟩ : ∃ ans, ans = mtL (p :: ps) ks := ⟨_, rfl⟩
  rw [← hans]
  cases hp : isW p hashW with
  | true =>
    have hp1 : (p.toList == [35]) = true := by rw [← hash_l]; exact hp
    have HM := Lib.hid (mt_hash hp ps ks)
    rw [← hans] at HM
    clear hp hans
    go_enter Tryd.func29, Tryd.ntmps29
    go_wp2
    go_loopw [5] (fun i wr => ∃ k : Nat, k ≤ ks.length + 1 ∧ i = .int .i64 (k : Nat) ∧ Hid ((∀ j, j < k → mtL ps (ks.drop j) = false) ∧ Gr w wr)) (fun i _ => ks.length + 1 - (intOf i).toNat)
    case atStart => exact ⟨0, by omega, rfl, fun j hj => by omega, Gr.refl _⟩
    case round =>
      obtain ⟨k, hk, rfl, HR⟩ := hrel
      by_cases hlt : k ≤ ks.length
      · obtain ⟨KA, KC, hrK, hsK, hcK, hmK⟩ := tail_run k (n := ks.length) (zs := ks) rfl hlt hc2 hcm2 HS2.out
        have cM := fun w1 (hg : Gr w w1) => Lib.hid (ih k PA KA PC KC w1 hcP hmP (by rw [List.length_drop]; exact hcK) hmK (HSP.out.gr hg) (hsK.gr hg))
        simp only [List.length_drop] at cM
        have hlt' : ((k : Nat) : Int) ≤ ((ks.length : Nat) : Int) := by omega
        clear hsK
        cases hv : mtL ps (ks.drop k) with
        | true =>
          rw [hv] at cM
          have HV := Lib.hid hv
          clear hv
          go_wp2
          go_region_law (go_simp; go_at_call 29; refine (cM _ HR.out.2.drew).out.mono ?_; clear cM; rintro r v ⟨rfl, hg⟩; have HG := Lib.hid (HR.out.2.drew.trans hg); clear hg)
          all_goals go_wp2
          all_goals go_ret
          all_goals exact ⟨by rw [HM.out.2 ⟨k, by omega, HV.out⟩]; rfl, HG.out⟩
        | false =>
          rw [hv] at cM
          have HV := Lib.hid hv
          clear hv
          go_wp2
          go_region_law (go_simp; go_at_call 29; refine (cM _ HR.out.2.drew).out.mono ?_; clear cM; rintro r v ⟨rfl, hg⟩; have HG := Lib.hid (HR.out.2.drew.trans hg); clear hg)
          go_wp2
          go_roundw
          case rel => exact ⟨k + 1, by omega, by go_num, fun j hj => (by
            by_cases he : j = k
            · rw [he]; exact HV.out
            · exact HR.out.1 j (by omega)), HG.out⟩
          case measure => (simp [intOf]; try omega)
      · obtain rfl : k = ks.length + 1 := by omega
        have HF : Hid (ans = false) := by
          show _ = _
          cases ha : ans with
          | false => rfl
          | true =>
            obtain ⟨j, hj, hm⟩ := HM.out.1 ha
            rw [HR.out.1 j (by omega)] at hm
            cases hm
        go_wp2
        go_ret
        exact ⟨by rw [HF.out]; rfl, HR.out.2⟩
  | false =>
    have hp1 : (p.toList == [35]) = false := by rw [← hash_l]; exact hp
    cases ks with
    | nil =>
      rw [mt_none hp] at hans
      have HANS := Lib.hid hans
      clear hans hp ih
      simp only [List.length_nil] at *
      go_enter Tryd.func29, Tryd.ntmps29
      go_wp2
      go_region
      all_goals go_wp2
      all_goals go_ret
      all_goals exact ⟨by rw [HANS.out]; rfl, (Gr.refl _).drew⟩
    | cons q qs =>
      have hql : (((qs.length : Nat) : Int) + 1 == 0) = false := by rw [beq_eq_false_iff_ne]; omega
      rcases HS2.out with h0 | ⟨aK, oK, rfl, hcellK⟩
      · cases h0
      have q0 := hcellK 0 q rfl 0 _ rfl
      simp only [Nat.zero_mul, Nat.add_zero] at q0
      clear hcellK
      simp only [List.length_cons] at *
      cases hs : isW p starW with
      | true =>
        have hs1 : (p.toList == [42]) = true := by rw [← star_l]; exact hs
        · skip
          have hans2 : ans = mtL ps qs := by rw [hans, mt_one hp, hs, Bool.true_or, Bool.true_and]
          obtain ⟨KA, KC, hrK, hsK, hcK, hmK⟩ := tail_run 1 (n := qs.length + 1) (zs := q :: qs) rfl (by omega) hc2 hcm2 HS2.out
          have HRK : ∀ w1, (Instr.slice 32 (.slice (some ⟨aK, oK, none⟩) (qs.length + 1) c2) (some (.int .i64 1)) none none).run Tryd.prog w1 = .ok (.slice KA qs.length KC) w1 := fun w1 => hrK w1
          have cM := fun w1 (hg : Gr w w1) => Lib.hid (ih 1 PA KA PC KC w1 hcP hmP hcK hmK (HSP.out.gr hg) (SliceAt.gr hsK hg))
          have cM2 : ∀ w1, Gr w w1 → Hid (Calls Tryd.prog 29 #[.slice PA ps.length PC, .slice KA qs.length KC] w1 fun r w' => r = .returned (.bool ans) ∧ Gr w1 w') := fun w1 hg => by
            rw [hans2]
            exact cM w1 hg
          clear cM hrK hsK hans hans2 hp ih hs
          go_enter Tryd.func29, Tryd.ntmps29
          go_wp2
          go_region
          go_wp2
          go_region_law (go_simp; go_at_call 29; refine (cM2 _ ((Gr.refl w).drew.drew)).out.mono ?_; clear cM2; rintro r v ⟨rfl, hg⟩; have HG := Lib.hid ((Gr.refl w).drew.drew.trans hg); clear hg)
          all_goals go_wp2
          all_goals go_ret
          all_goals exact ⟨rfl, HG.out⟩
      | false =>
        have hs1 : (p.toList == [42]) = false := by rw [← star_l]; exact hs
        cases hw : isW p q with
        | true =>
          have hw1 : (p.toList == q.toList) = true := hw
          have hans2 : ans = mtL ps qs := by rw [hans, mt_one hp, hs, hw, Bool.false_or, Bool.true_and]
          obtain ⟨KA, KC, hrK, hsK, hcK, hmK⟩ := tail_run 1 (n := qs.length + 1) (zs := q :: qs) rfl (by omega) hc2 hcm2 HS2.out
          have HRK : ∀ w1, (Instr.slice 32 (.slice (some ⟨aK, oK, none⟩) (qs.length + 1) c2) (some (.int .i64 1)) none none).run Tryd.prog w1 = .ok (.slice KA qs.length KC) w1 := fun w1 => hrK w1
          have cM := fun w1 (hg : Gr w w1) => Lib.hid (ih 1 PA KA PC KC w1 hcP hmP hcK hmK (HSP.out.gr hg) (SliceAt.gr hsK hg))
          have cM2 : ∀ w1, Gr w w1 → Hid (Calls Tryd.prog 29 #[.slice PA ps.length PC, .slice KA qs.length KC] w1 fun r w' => r = .returned (.bool ans) ∧ Gr w1 w') := fun w1 hg => by
            rw [hans2]
            exact cM w1 hg
          clear cM hrK hsK hans hans2 hp ih hs hw
          go_enter Tryd.func29, Tryd.ntmps29
          go_wp2
          go_region
          go_wp2
          go_region_law (go_simp; go_at_call 29; refine (cM2 _ ((Gr.refl w).drew.drew)).out.mono ?_; clear cM2; rintro r v ⟨rfl, hg⟩; have HG := Lib.hid ((Gr.refl w).drew.drew.trans hg); clear hg)
          all_goals go_wp2
          all_goals go_ret
          all_goals exact ⟨rfl, HG.out⟩
        | false =>
          have hw1 : (p.toList == q.toList) = false := hw
          rw [mt_one hp, hs, hw] at hans
          have HANS : Hid (ans = false) := hans
          clear hans hp hs hw ih
          go_enter Tryd.func29, Tryd.ntmps29
          go_wp2
          go_region
          all_goals go_wp2
          all_goals go_ret
          all_goals exact ⟨by rw [HANS.out]; rfl, (Gr.refl _).drew⟩
theorem rf_match : ∀ (ps ks : List ByteArray) (hlp : ps.length ≤ 4001) (hlk : ks.length ≤ 4001) (A A2 : Option Addr) (c c2 : Nat) (w : World) (hc : ps.length ≤ c) (hcm : c ≤ maxLen) (hc2 : ks.length ≤ c2) (hcm2 : c2 ≤ maxLen) (hs : SliceAt w A 1 strCell' ps) (hs2 : SliceAt w A2 1 strCell' ks),
    Calls Tryd.prog 29 #[.slice A ps.length c, .slice A2 ks.length c2] w fun r w' => r = .returned (.bool (mtL ps ks)) ∧ Gr w w'
  | [], ks, _, _, A, A2, c, c2, w, _, _, _, _, _, _ => rf_match0 ks A A2 c c2 w
  | p :: ps, ks, hlp, hlk, A, A2, c, c2, w, hc, hcm, hc2, hcm2, hs, hs2 =>
    rf_match1 p ps ks (by simp at hlp; omega) hlk (fun i A A2 c c2 w h1 h2 h3 h4 h5 h6 => rf_match ps (ks.drop i) (by simp at hlp; omega) (by rw [List.length_drop]; omega) A A2 c c2 w h1 h2 h3 h4 h5 h6) A A2 c c2 w (by simpa using hc) hcm hc2 hcm2 hs hs2
theorem words_le (s : List UInt8) (hs : s.length ≤ 4000) : (wordsL s).length ≤ 4001 := by
  unfold wordsL
  split
  · simp
  · have h1 := split_len s
    have h2 : s.count 46 ≤ s.length := List.count_le_length
    omega
/-- the document's Match -/
theorem rf_matchA (p k : List UInt8) (hp : p.length ≤ 4000) (hk : k.length ≤ 4000) (w : World) : Calls Tryd.prog 9 #[.string (B p), .string (B k)] w fun r w' => r = .returned (.bool (mtL ((wordsL p).map B) ((wordsL k).map B))) ∧ Gr w w' := by
  have c1 := fun w1 => Lib.hid (rw_words p hp w1)
  have c2 := fun w1 => Lib.hid (rw_words k hk w1)
  have cM := fun A A2 c c2 w1 h1 h2 h3 h4 h5 h6 => Lib.hid (rf_match ((wordsL p).map B) ((wordsL k).map B) (by rw [List.length_map]; exact words_le p hp) (by rw [List.length_map]; exact words_le k hk) A A2 c c2 w1 h1 h2 h3 h4 h5 h6)
  simp only [List.length_map] at cM
  generalize (wordsL p).length = np at *
  generalize (wordsL k).length = nk at *
  generalize (wordsL p).map B = P at *
  generalize (wordsL k).map B = K at *
  go_enter Tryd.func9, Tryd.ntmps9
  go_wp2_with (first
    | (go_at_call 29; refine (cM _ _ _ _ _ H1.out.2.1 H1.out.2.2.1 H2.out.2.1 H2.out.2.2.1 (SliceAt.gr H1.out.1 H2.out.2.2.2) H2.out.1).out.mono ?_; rintro r w' ⟨rfl, hg⟩; have HG := Lib.hid ((H1.out.2.2.2.trans H2.out.2.2.2).trans hg); clear hg)
    | (go_at_call 22; refine (c1 _).out.mono ?_; clear c1; rintro r v1 ⟨A1, q1, rfl, hs1, hl1, hm1, hg⟩; have H1 := Lib.hid (And.intro hs1 (And.intro hl1 (And.intro hm1 hg))); clear hs1 hl1 hm1 hg)
    | (go_at_call 22; refine (c2 _).out.mono ?_; clear c2; rintro r v2 ⟨A2, q2, rfl, hs1, hl1, hm1, hg⟩; have H2 := Lib.hid (And.intro hs1 (And.intro hl1 (And.intro hm1 hg))); clear hs1 hl1 hm1 hg))
  go_ret
  exact ⟨rfl, HG.out⟩
end Go.Proofs.YtdpildbdbbfamaaDoor
