/- The law OrderBack, walked (printed by ordback_gen.py). -/
import Derived.Test.YtckklikfikeokaaDoorOrdPars
import Derived.Test.YtckklikfikeokaaDoorOrdW4
namespace Go.Proofs.YtckklikfikeokaaDoor
open Go.RowKit
set_option linter.unusedVariables false
set_option linter.unusedSimpArgs false
set_option maxRecDepth 100000
set_option maxHeartbeats 4000000
theorem canOk_P {l : List Pa} (h : ∀ p ∈ l, paOk p) : canOk (l.map paP) := by
  intro q hq
  obtain ⟨p, hp, rfl⟩ := List.mem_map.1 hq
  refine ⟨paP_plain p, ?_⟩
  have := h p hp
  obtain ⟨t, n, s⟩ := p
  cases t
  · exact this
  · show (0 : Nat) < _; omega
theorem parts_as {S : List UInt8} {xs : List Pa} {e : Int} (h : ParsOf S xs e) (hS : S.length ≤ maxLen) (w : World) :
    Calls Tryd.prog 22 #[.string (B S)] w fun x w' => ∃ A cap, x = .returned (.tuple #[.slice A xs.length cap, .int .i64 e]) ∧ SliceAt w' A 3 paCell xs ∧ xs.length ≤ cap ∧ cap ≤ maxLen ∧ Gr w w' := by
  refine (or_parts S hS w).mono ?_
  rintro x w' ⟨A, cap, ys, f, rfl, hp, hown, hg⟩
  obtain ⟨rfl, rfl⟩ := hp.uniq h
  exact ⟨A, cap, rfl, hown.slice paCell_len, hown.cap_le.1, hown.cap_le.2, hg⟩
theorem plain_as (A : Option Addr) (cap : Nat) (l : List Pa) (hcap : l.length ≤ cap) (hcm : cap ≤ maxLen) (hl : l.length ≤ 4000) (w : World) (hs : SliceAt w A 3 paCell l) :
    Calls Tryd.prog 16 #[.slice A l.length cap] w fun r w' => ∃ A' cap', r = .returned (.slice A' (l.map paP).length cap') ∧ SliceAt w' A' 3 paCell (l.map paP) ∧ (l.map paP).length ≤ cap' ∧ cap' ≤ maxLen ∧ Gr w w' := by
  refine (law_plain A cap l hcap hcm hl w hs).mono ?_
  rintro x w' ⟨A', cap', rfl, hown, hg⟩
  exact ⟨A', cap', rfl, hown.slice paCell_len, hown.cap_le.1, hown.cap_le.2, hg⟩
theorem esc_le (l : List UInt8) : l.length ≤ (esc l).length := by
  induction l with
  | nil => simp
  | cons c l ih => by_cases hc : c = 0 <;> simp [esc, hc] <;> omega
theorem few_of_key {xs : List Pa} (h : canOk xs) (hk : (keyB xs).length ≤ 255) : ∀ p ∈ xs, paOk p ∧ p.2.2.size ≤ 10000 := by
  intro p hp
  refine ⟨(h p hp).2, ?_⟩
  have hpl := (h p hp).1
  obtain ⟨u, v, rfl⟩ := List.append_of_mem hp
  rw [keyB_app] at hk
  have h2 : (keyB (p :: v)).length = (paB p).length + (keyB v).length := by simp [keyB]
  rw [List.length_append, h2] at hk
  obtain ⟨t, n, s⟩ := p
  cases t
  · have : s = .empty := hpl
    rw [this]; show (0 : Nat) ≤ 10000; omega
  · have h3 := esc_le s.data.toList
    have h4 : s.data.toList.length = s.size := by simp
    simp only [paB, if_pos, List.length_cons, List.length_append] at hk
    show s.size ≤ _
    omega
theorem key_of (xs : List Pa) (S : List UInt8) (h : canOk xs) (hk : keyB xs = S) (hS : S.length ≤ 255) (A : Option Addr) (cap : Nat) (w : World) (hcap : xs.length ≤ cap) (hcm : cap ≤ maxLen) (hml : ∃ m, w.cell? ⟨0, 0, none⟩ = some (.int .i64 m)) (hs : SliceAt w A 3 paCell xs) :
    Calls Tryd.prog 17 #[.slice A xs.length cap] w fun r w' => r = .returned (.tuple #[.string (B S), .int .i64 0]) ∧ Gr w w' := by
  have h2 := or_keyP A cap xs hcap hcm (few_of_key h (by rw [hk]; exact hS)) w hml hs
  have h3 : keyAns xs = (B S, 0) := by unfold keyAns; rw [if_neg (by rw [hk]; omega), hk]
  rw [h3] at h2
  exact h2
theorem walk_OrderBack_ (A : Option Addr) (cap : Nat) (a : List Pa) (S : List UInt8) (h1 : a.length ≤ cap) (hm1 : cap ≤ maxLen) (oa : ∀ p ∈ a, paOk p) (hS : S.length ≤ maxLen) (w : World) (hs1 : SliceAt w A 3 paCell a)
    (hml : ∃ m, w.cell? ⟨0, 0, none⟩ = some (.int .i64 m)) :
    Calls Tryd.prog 6 #[.slice A a.length cap, .string (B S)] w fun e w' => e = .returned (.bool true) ∧ Gr w w' := by
  have cA := fun w1 => Lib.hid (law04_awake w1)
  have cLa := fun w1 (h : SliceAt w1 A 3 paCell a) => Lib.hid (law_light A cap a h1 hm1 w1 h)
  have HX := Lib.hid hs1
  have HML : Hid (∀ W, Gr w W → ∃ m, W.cell? ⟨0, 0, none⟩ = some (.int .i64 m)) := fun W hg => by obtain ⟨m, hm⟩ := hml; exact ⟨m, hg.cells hm⟩
  have zS := B_size S
  have hSm : Hid (S.length ≤ maxLen) := hS
  unfold maxLen at hS
  clear hs1 hml
  by_cases hla : lightB a = true
  case neg =>
    have hla2 : lightB a = false := by simpa using hla
    rw [hla2] at cLa
    clear hla hla2
    go_enter Tryd.func6, Tryd.ntmps6
    go_wp2_with (first
      | (go_at_call 14; refine (cA _).out.mono ?_; clear cA; rintro r v1 ⟨rfl, hg⟩; have HG1 : Hid (Gr w v1) := hg; clear hg)
      | (go_at_call 15; refine (cLa _ (HX.out.gr HG1.out)).out.mono ?_; clear cLa; rintro r v2 ⟨rfl, hg⟩; have HG2 : Hid (Gr w v2) := HG1.out.trans hg; clear hg))
    go_ret
    exact ⟨rfl, HG2.out⟩
  rw [hla] at cLa
  have hfew := lightB_true hla
  have hal := hfew.1
  clear hla
  by_cases hs4 : 400 < S.length
  · have hs4' : (400 : Int) < ((S.length : Nat) : Int) := by omega
    clear hs4
    go_enter Tryd.func6, Tryd.ntmps6
    go_wp2_with (first
      | (go_at_call 14; refine (cA _).out.mono ?_; clear cA; rintro r v1 ⟨rfl, hg⟩; have HG1 : Hid (Gr w v1) := hg; clear hg)
      | (go_at_call 15; refine (cLa _ (HX.out.gr HG1.out)).out.mono ?_; clear cLa; rintro r v2 ⟨rfl, hg⟩; have HG2 : Hid (Gr w v2) := HG1.out.trans hg; clear hg))
    go_ret
    exact ⟨rfl, HG2.out⟩
  have hs4' : ¬ (400 : Int) < ((S.length : Nat) : Int) := by omega
  have oka : ∀ p ∈ a, paOk p ∧ p.2.2.size ≤ 10000 := fun p hp => ⟨oa p hp, by have := hfew.2 p hp; unfold paFew at this; omega⟩
  have cK1 : ∀ w1, Gr w w1 → Hid (Calls Tryd.prog 17 #[.slice A a.length cap] w1 fun r w' => r = .returned (.tuple #[.string (keyAns a).1, .int .i64 (keyAns a).2]) ∧ Gr w1 w') :=
    fun w1 hg => or_keyP A cap a h1 hm1 oka w1 (HML.out w1 hg) (HX.out.gr hg)
  have cPl : ∀ w1, Gr w w1 → _ := fun w1 hg => Lib.hid (plain_as A cap a h1 hm1 (by omega) w1 (HX.out.gr hg))
  have hP1 : (keyB a).length ≤ 255 → ParsOf (keyB a) (a.map paP) 0 := fun h => .inl ⟨rfl, canOk_P oa, keyB_P a, h⟩
  have hP2 : (∃ xs, canOk xs ∧ keyB xs = S ∧ S.length ≤ 255) ∨ ParsOf S [] 20 := by
    by_cases h : ∃ xs, canOk xs ∧ keyB xs = S ∧ S.length ≤ 255
    · exact .inl h
    · refine .inr (.inr ⟨rfl, rfl, ?_⟩)
      by_cases h2 : 255 < S.length
      · exact .inl h2
      · exact .inr fun ys hy he => h ⟨ys, hy, he, by omega⟩
  generalize a.map paP = c at *
  clear oka hfew hs4
  rcases hP2 with ⟨xs, x1, x2, x3⟩ | hP2
  · have cP2 := fun w1 => Lib.hid (parts_as (.inl ⟨rfl, x1, x2, x3⟩ : ParsOf S xs 0) hSm.out w1)
    have cK2 := fun A2 cap2 w1 h1 h2 (hg : Gr w w1) h3 => Lib.hid (key_of xs S x1 x2 x3 A2 cap2 w1 h1 h2 (HML.out w1 hg) h3)
    clear x1 x2 x3
    by_cases hk : (keyB a).length ≤ 255
    · have cP1 := fun w1 => Lib.hid (parts_as (hP1 hk) (by unfold maxLen; omega) w1)
      have hka : keyAns a = (B (keyB a), 0) := by unfold keyAns; rw [if_neg (by omega)]
      rw [hka] at cK1
      clear hka hP1 hk
      generalize keyB a = ka at *
      go_enter Tryd.func6, Tryd.ntmps6
      go_wp2_with (first
        | (go_at_call 14; refine (cA _).out.mono ?_; clear cA; rintro r v1 ⟨rfl, hg⟩; have HG1 : Hid (Gr w v1) := hg; clear hg)
        | (go_at_call 15; refine (cLa _ (HX.out.gr HG1.out)).out.mono ?_; clear cLa; rintro r v2 ⟨rfl, hg⟩; have HG2 : Hid (Gr w v2) := HG1.out.trans hg; clear hg)
        | (go_at_call_of 17 (Value.slice A a.length cap); refine (cK1 _ HG2.out).out.mono ?_; clear cK1; rintro r v3 ⟨rfl, hg⟩; have HG3 : Hid (Gr w v3) := HG2.out.trans hg; clear hg)
        | (go_at_call_of 22 (Value.string (B ka)); refine (cP1 _).out.mono ?_; clear cP1; rintro r v4 ⟨B1, bc1, rfl, hs, h1, h2, hg⟩; have HB1 := Lib.hid (And.intro hs (And.intro h1 h2)); have HG4 : Hid (Gr w v4) := HG3.out.trans hg; clear hg hs h1 h2)
        | (go_at_call 16; refine (cPl _ HG4.out).out.mono ?_; clear cPl; rintro r v5 ⟨B2, bc2, rfl, hs, h1, h2, hg⟩; have HB2 := Lib.hid (And.intro hs (And.intro h1 h2)); have HB3 := Lib.hid (HB1.out.1.gr hg); have HG5 : Hid (Gr w v5) := HG4.out.trans hg; clear hg hs h1 h2)
        | (go_at_call 18; refine (law_same B1 B2 bc1 bc2 c c HB1.out.2.1 HB2.out.2.1 HB1.out.2.2 HB2.out.2.2 true (by simp) _ HB3.out HB2.out.1).mono ?_; rintro r v6 ⟨rfl, hg⟩; have HG6 : Hid (Gr w v6) := HG5.out.trans hg; clear hg)
        | (go_at_call 22; refine (cP2 _).out.mono ?_; clear cP2; rintro r v7 ⟨B4, bc4, rfl, hs, h1, h2, hg⟩; have HB4 := Lib.hid (And.intro hs (And.intro h1 h2)); have HG7 : Hid (Gr w v7) := HG6.out.trans hg; clear hg hs h1 h2)
        | (go_at_call 17; refine (cK2 B4 bc4 _ HB4.out.2.1 HB4.out.2.2 HG7.out HB4.out.1).out.mono ?_; clear cK2; rintro r v8 ⟨rfl, hg⟩; have HG8 : Hid (Gr w v8) := HG7.out.trans hg; clear hg))
      go_ret
      exact ⟨rfl, HG8.out⟩
    · have hka : keyAns a = (.empty, 5) := by unfold keyAns; rw [if_pos (by omega)]
      rw [hka] at cK1
      clear hka hP1 hk
      go_enter Tryd.func6, Tryd.ntmps6
      go_wp2_with (first
        | (go_at_call 14; refine (cA _).out.mono ?_; clear cA; rintro r v1 ⟨rfl, hg⟩; have HG1 : Hid (Gr w v1) := hg; clear hg)
        | (go_at_call 15; refine (cLa _ (HX.out.gr HG1.out)).out.mono ?_; clear cLa; rintro r v2 ⟨rfl, hg⟩; have HG2 : Hid (Gr w v2) := HG1.out.trans hg; clear hg)
        | (go_at_call_of 17 (Value.slice A a.length cap); refine (cK1 _ HG2.out).out.mono ?_; clear cK1; rintro r v3 ⟨rfl, hg⟩; have HG3 : Hid (Gr w v3) := HG2.out.trans hg; clear hg)
        | (go_at_call 22; refine (cP2 _).out.mono ?_; clear cP2; rintro r v7 ⟨B4, bc4, rfl, hs, h1, h2, hg⟩; have HB4 := Lib.hid (And.intro hs (And.intro h1 h2)); have HG7 : Hid (Gr w v7) := HG3.out.trans hg; clear hg hs h1 h2)
        | (go_at_call 17; refine (cK2 B4 bc4 _ HB4.out.2.1 HB4.out.2.2 HG7.out HB4.out.1).out.mono ?_; clear cK2; rintro r v8 ⟨rfl, hg⟩; have HG8 : Hid (Gr w v8) := HG7.out.trans hg; clear hg))
      go_ret
      exact ⟨rfl, HG8.out⟩
  · have cP2 := fun w1 => Lib.hid (parts_as hP2 hSm.out w1)
    have cK2 := fun A2 cap2 w1 h1 h2 (hg : Gr w w1) h3 => Lib.hid (key_of [] [] (fun p hp => by simp at hp) rfl (by simp) A2 cap2 w1 h1 h2 (HML.out w1 hg) h3)
    simp only [List.length_nil] at cP2 cK2
    clear hP2
    by_cases hk : (keyB a).length ≤ 255
    · have cP1 := fun w1 => Lib.hid (parts_as (hP1 hk) (by unfold maxLen; omega) w1)
      have hka : keyAns a = (B (keyB a), 0) := by unfold keyAns; rw [if_neg (by omega)]
      rw [hka] at cK1
      clear hka hP1 hk
      generalize keyB a = ka at *
      go_enter Tryd.func6, Tryd.ntmps6
      go_wp2_with (first
        | (go_at_call 14; refine (cA _).out.mono ?_; clear cA; rintro r v1 ⟨rfl, hg⟩; have HG1 : Hid (Gr w v1) := hg; clear hg)
        | (go_at_call 15; refine (cLa _ (HX.out.gr HG1.out)).out.mono ?_; clear cLa; rintro r v2 ⟨rfl, hg⟩; have HG2 : Hid (Gr w v2) := HG1.out.trans hg; clear hg)
        | (go_at_call_of 17 (Value.slice A a.length cap); refine (cK1 _ HG2.out).out.mono ?_; clear cK1; rintro r v3 ⟨rfl, hg⟩; have HG3 : Hid (Gr w v3) := HG2.out.trans hg; clear hg)
        | (go_at_call_of 22 (Value.string (B ka)); refine (cP1 _).out.mono ?_; clear cP1; rintro r v4 ⟨B1, bc1, rfl, hs, h1, h2, hg⟩; have HB1 := Lib.hid (And.intro hs (And.intro h1 h2)); have HG4 : Hid (Gr w v4) := HG3.out.trans hg; clear hg hs h1 h2)
        | (go_at_call 16; refine (cPl _ HG4.out).out.mono ?_; clear cPl; rintro r v5 ⟨B2, bc2, rfl, hs, h1, h2, hg⟩; have HB2 := Lib.hid (And.intro hs (And.intro h1 h2)); have HB3 := Lib.hid (HB1.out.1.gr hg); have HG5 : Hid (Gr w v5) := HG4.out.trans hg; clear hg hs h1 h2)
        | (go_at_call 18; refine (law_same B1 B2 bc1 bc2 c c HB1.out.2.1 HB2.out.2.1 HB1.out.2.2 HB2.out.2.2 true (by simp) _ HB3.out HB2.out.1).mono ?_; rintro r v6 ⟨rfl, hg⟩; have HG6 : Hid (Gr w v6) := HG5.out.trans hg; clear hg)
        | (go_at_call 22; refine (cP2 _).out.mono ?_; clear cP2; rintro r v7 ⟨B4, bc4, rfl, hs, h1, h2, hg⟩; have HB4 := Lib.hid (And.intro hs (And.intro h1 h2)); have HG7 : Hid (Gr w v7) := HG6.out.trans hg; clear hg hs h1 h2)
        | (go_at_call 17; refine (cK2 B4 bc4 _ HB4.out.2.1 HB4.out.2.2 HG7.out HB4.out.1).out.mono ?_; clear cK2; rintro r v8 ⟨rfl, hg⟩; have HG8 : Hid (Gr w v8) := HG7.out.trans hg; clear hg))
      go_ret
      exact ⟨rfl, HG8.out⟩
    · have hka : keyAns a = (.empty, 5) := by unfold keyAns; rw [if_pos (by omega)]
      rw [hka] at cK1
      clear hka hP1 hk
      go_enter Tryd.func6, Tryd.ntmps6
      go_wp2_with (first
        | (go_at_call 14; refine (cA _).out.mono ?_; clear cA; rintro r v1 ⟨rfl, hg⟩; have HG1 : Hid (Gr w v1) := hg; clear hg)
        | (go_at_call 15; refine (cLa _ (HX.out.gr HG1.out)).out.mono ?_; clear cLa; rintro r v2 ⟨rfl, hg⟩; have HG2 : Hid (Gr w v2) := HG1.out.trans hg; clear hg)
        | (go_at_call_of 17 (Value.slice A a.length cap); refine (cK1 _ HG2.out).out.mono ?_; clear cK1; rintro r v3 ⟨rfl, hg⟩; have HG3 : Hid (Gr w v3) := HG2.out.trans hg; clear hg)
        | (go_at_call 22; refine (cP2 _).out.mono ?_; clear cP2; rintro r v7 ⟨B4, bc4, rfl, hs, h1, h2, hg⟩; have HB4 := Lib.hid (And.intro hs (And.intro h1 h2)); have HG7 : Hid (Gr w v7) := HG3.out.trans hg; clear hg hs h1 h2)
        | (go_at_call 17; refine (cK2 B4 bc4 _ HB4.out.2.1 HB4.out.2.2 HG7.out HB4.out.1).out.mono ?_; clear cK2; rintro r v8 ⟨rfl, hg⟩; have HG8 : Hid (Gr w v8) := HG7.out.trans hg; clear hg))
      go_ret
      exact ⟨rfl, HG8.out⟩
end Go.Proofs.YtckklikfikeokaaDoor
