/- The law ChainFrames, walked. -/
import Derived.Test.YtbkcfadbjebbdaaChFrames
import Derived.Test.YtbkcfadbjebbdaaChRefFrames
import Derived.Test.YtbkcfadbjebbdaaOpenFive
import Derived.Test.YtbkcfadbjebbdaaShelf
namespace Go.Proofs.Ytbkcfadbjebbdaa
open Go.RowKit
set_option linter.unusedVariables false
set_option linter.unusedSimpArgs false
set_option maxRecDepth 100000
set_option maxHeartbeats 4000000
theorem chErr_a : chErr [2] [97] = 0 := by
  unfold chErr
  rw [if_neg (by decide), if_neg (by decide), if_neg (by simp)]
theorem chOut_a : chOut [2] [97] = [(0, 2, B [0, 0, 0, 0, 97])] := by
  unfold chOut
  rw [if_pos chErr_a]
  decide
theorem law09_awake (w : World) : Calls Try.prog 24 #[] w fun r w' => r = .returned (.bool true) ∧ Gr w w' := by
  have N0 := fun w1 => Lib.hid (ch_need 0 (by unfold I64; omega) w1)
  have N1 := fun w1 => Lib.hid (ch_need 4068 (by unfold I64; omega) w1)
  have N2 := fun w1 => Lib.hid (ch_need 4069 (by unfold I64; omega) w1)
  rw [show chNeed 0 = 1 from rfl] at N0
  rw [show chNeed 4068 = 1 from rfl] at N1
  rw [show chNeed 4069 = 2 from rfl] at N2
  have HA := heap_alloc_last w (.cells #[.int .u32 2] 40)
  have HG : Hid (Gr w (w.alloc (.cells #[.int .u32 2] 40))) := (Gr.refl w).alloc _
  have hs : SliceAt (w.alloc (.cells #[.int .u32 2] 40)) (some ⟨w.heap.size, 0, none⟩) 1 u32Cell [2] := by
    refine .inr ⟨w.heap.size, 0, rfl, ?_⟩
    intro i x hx j u hu
    match i, hx with
    | 0, hx =>
      cases hx
      match j, hu with
      | 0, hu => cases hu; rw [cell_of_row _ _ 0 _ _ _ HA]; rfl
  have CF := Lib.hid (ch_frames (some ⟨w.heap.size, 0, none⟩) 1 [2] (by decide) (by decide) (by decide) (by decide) 1 (by unfold U64; omega) [97] (by decide) _ hs)
  rw [chOut_a, chErr_a] at CF
  clear hs HA
  have e1 : ((1 : Nat) : Int) = 1 := rfl
  simp only [List.length_singleton, e1] at CF
  rw [show B [97] = (⟨#[97]⟩ : ByteArray) from rfl, show B [0, 0, 0, 0, 97] = (⟨#[0, 0, 0, 0, 97]⟩ : ByteArray) from rfl] at CF
  go_enter Try.func24, Try.ntmps24
  go_wp2_with (first
    | (go_at_call 26; refine CF.out.mono ?_; rintro r v1 ⟨A', cap', rfl, hown, hg⟩; have HV : Hid (Gr w v1) := HG.out.trans hg; have hcc := hown.cap_le.1; rcases hown.slice (fun _ => rfl) with h0 | ⟨a, off, rfl, hcell⟩; (· cases h0); have hc := hcell 0 _ rfl 4 _ rfl; simp only [Nat.zero_mul, Nat.add_zero] at hc; clear hown hg hcell)
    | (go_at_call 28; (with_reducible show Calls _ _ #[.int .i64 0] _ _); refine (N0 _).out.mono ?_; rintro r v2 ⟨rfl, rfl⟩)
    | (go_at_call 28; (with_reducible show Calls _ _ #[.int .i64 4068] _ _); refine (N1 _).out.mono ?_; rintro r v3 ⟨rfl, rfl⟩)
    | (go_at_call 28; (with_reducible show Calls _ _ #[.int .i64 4069] _ _); refine (N2 _).out.mono ?_; rintro r v4 ⟨rfl, rfl⟩))
  go_ret
  exact ⟨rfl, HV.out⟩
theorem walk_ChainFrames_ (A : Option Addr) (cap : Nat) (ids : List Nat) (hcap : ids.length ≤ cap) (hcm : cap ≤ maxLen) (hi : ∀ x ∈ ids, x < 4294967296) (tx : Nat) (htx : U64 tx) (s : ByteArray) (hs : s.size ≤ maxLen) (m : Int) (hm64 : I64 m) (more : Nat) (hmore : more < 256) (w : World) (hsl : SliceAt w A 1 u32Cell ids) :
    Calls Try.prog 4 #[.slice A ids.length cap, .int .u64 (tx : Nat), .string s, .int .i64 m, .int .u8 (more : Nat)] w fun e w' => e = .returned (.bool true) ∧ Gr w w' := by
  have hs1 := hs
  have hcm1 := hcm
  unfold maxLen at hs1 hcm1
  by_cases hb : 20000 < s.size
  · go_enter Try.func4, Try.ntmps4
    go_wp2_with (go_at_call 24; refine (law09_awake _).mono ?_; rintro r v0 ⟨rfl, hg⟩; have G0 : Hid (Gr w v0) := hg; clear hg)
    go_ret
    exact ⟨rfl, G0.out⟩
  · by_cases hl40 : 40 < ids.length
    · have hl' : (40 : Int) < (ids.length : Int) := by omega
      go_enter Try.func4, Try.ntmps4
      go_wp2_with (go_at_call 24; refine (law09_awake _).mono ?_; rintro r v0 ⟨rfl, hg⟩; have G0 : Hid (Gr w v0) := hg; clear hg)
      go_ret
      exact ⟨rfl, G0.out⟩
    · have hl' : ¬ (40 : Int) < (ids.length : Int) := by omega
      replace hl40 : ids.length ≤ 40 := by omega
      have HX := Lib.hid hsl
      clear hsl
      by_cases hm0 : 0 < more
      · have hM : (0 : Int) < (more : Int) := by omega
        have hrem : (more : Int).tmod 4 = ((more % 4 : Nat) : Int) := by rw [Int.tmod_eq_emod_of_nonneg (by omega)]; omega
        have hk : more % 4 < 4 := Nat.mod_lt _ (by omega)
        generalize more % 4 = q at *
        have hw8 : IntKind.u8.wrap (q : Int) = (q : Int) := by rw [IntKind.wrap_u8']; omega
        have hadd2 : (65534 : Int) + (q : Int) = ((65534 + q : Nat) : Int) := by omega
        have cR := fun w1 => Lib.hid (Try.strings_Repeat ⟨#[97]⟩ (65534 + q) w1 (by omega) (by show 1 * (65534 + q) ≤ _; omega))
        have hsz : (Lib.repeatL (ByteArray.mk #[97]).data.toList (65534 + q)).length ≤ 100000 := by
          show (Lib.repeatL [97] (65534 + q)).length ≤ 100000
          rw [Lib.repeatL_length, List.length_singleton]
          omega
        rw [show ByteArray.mk (Lib.repeatL (ByteArray.mk #[97]).data.toList (65534 + q)).toArray = B (Lib.repeatL (ByteArray.mk #[97]).data.toList (65534 + q)) from rfl] at cR
        generalize Lib.repeatL (ByteArray.mk #[97]).data.toList (65534 + q) = l at *
        generalize 65534 + q = kk at *
        have CA := fun w1 h => Lib.hid (ch_frames A cap ids hcap hcm hl40 hi tx htx l hsz w1 h)
        have CB := fun w1 h => Lib.hid (ch_refframes A cap ids hcap hcm hl40 hi tx htx l hsz w1 h)
        generalize chOut ids l = co at *
        generalize chErr ids l = ce at *
        go_enter Try.func4, Try.ntmps4
        go_wp2_with (first
          | (go_at_call 24; refine (law09_awake _).mono ?_; rintro r v0 ⟨rfl, hg⟩; have G0 : Hid (Gr w v0) := hg; clear hg)
          | (go_at_call 25; refine (cR _).out.mono ?_; rintro r u1 ⟨rfl, hg⟩; have GV : Hid (Gr w u1) := G0.out.trans hg; clear hg cR)
          | (go_at_call 26; refine (CA _ (HX.out.gr GV.out)).out.mono ?_; clear CA; rintro r v3 ⟨A1, cap1, rfl, hown1, hg1⟩; have G3 : Hid (Gr w v3 ∧ SliceAt v3 A1 5 (frCell tx) co ∧ co.length ≤ cap1) := ⟨GV.out.trans hg1, hown1.slice (fun _ => rfl), hown1.cap_le.1⟩; clear hown1 hg1)
          | (go_at_call 27; refine (CB _ (HX.out.gr G3.out.1)).out.mono ?_; clear CB; rintro r v4 ⟨A2, cap2, rfl, hown2, hg2⟩; have G4 : Hid (Gr w v4 ∧ SliceAt v4 A1 5 (frCell tx) co ∧ SliceAt v4 A2 5 (frCell tx) co) := ⟨G3.out.1.trans hg2, G3.out.2.1.gr hg2, hown2.slice (fun _ => rfl)⟩; have hq1 := G3.out.2.2; have hq2 := hown2.cap_le.1; have hq3 := hown2.cap_le.2; unfold maxLen at hq3; clear hown2 hg2))
        clear G3 GV
        generalize v4 = W at *
        go_loopw [59] (fun i wr => ∃ k : Nat, k ≤ co.length ∧ i = .int .i64 (k : Nat) ∧ Hid (Gr W wr)) (fun i _ => co.length - (intOf i).toNat)
        case atStart => exact ⟨0, by omega, rfl, Gr.refl _⟩
        case round =>
          obtain ⟨k, hk, rfl, HR⟩ := hrel
          by_cases hlt : k < co.length
          · rcases G4.out.2.1 with h0 | ⟨a1, o1, rfl, hca⟩
            · subst h0; simp at hlt
            · rcases G4.out.2.2 with h0 | ⟨a2, o2, rfl, hcb⟩
              · subst h0; simp at hlt
              · have hx := List.getElem?_eq_getElem hlt
                generalize co[k] = x at hx
                obtain ⟨c0, c1, c2⟩ := x
                have a0 := HR.out.cells (hca k _ hx 0 _ rfl)
                have a1 := HR.out.cells (hca k _ hx 1 _ rfl)
                have a2 := HR.out.cells (hca k _ hx 2 _ rfl)
                have a3 := HR.out.cells (hca k _ hx 3 _ rfl)
                have a4 := HR.out.cells (hca k _ hx 4 _ rfl)
                have b0 := HR.out.cells (hcb k _ hx 0 _ rfl)
                have b1 := HR.out.cells (hcb k _ hx 1 _ rfl)
                have b2 := HR.out.cells (hcb k _ hx 2 _ rfl)
                have b3 := HR.out.cells (hcb k _ hx 3 _ rfl)
                have b4 := HR.out.cells (hcb k _ hx 4 _ rfl)
                simp only [Nat.add_zero] at a0 b0
                clear hca hcb hx
                go_wp2
                go_region
                go_wp2
                go_roundw
                case rel => exact ⟨k + 1, by omega, by go_num, HR.out.drew⟩
                case measure => simp [intOf]; omega
          · obtain rfl : k = co.length := by omega
            have HZ : Hid (Gr w wr) := G4.out.1.trans HR.out
            clear G4 HR
            by_cases hm : 1048576 < m
            · go_wp2
              go_ret
              exact ⟨rfl, HZ.out⟩
            · have CN := fun w1 => Lib.hid (ch_need m hm64 w1)
              have CR := fun w1 => Lib.hid (ch_refneed m ⟨hm64.1, by omega⟩ w1)
              generalize chNeed m = nd at *
              go_wp2_with (first
                | (go_at_call 28; refine (CN _).out.mono ?_; rintro r v6 ⟨rfl, rfl⟩)
                | (go_at_call 29; refine (CR _).out.mono ?_; rintro r v7 ⟨rfl, rfl⟩))
              go_ret
              exact ⟨rfl, HZ.out⟩
      · obtain rfl : more = 0 := by omega
        have e0 : ((0 : Nat) : Int) = 0 := rfl
        simp only [e0]
        obtain ⟨l, rfl⟩ : ∃ l, s = B l := ⟨s.data.toList, by cases s; simp [B]⟩
        rw [B_size] at hb hs1
        have hzl : (B l).size = l.length := B_size l
        have CA := fun w1 h => Lib.hid (ch_frames A cap ids hcap hcm hl40 hi tx htx l (by omega) w1 h)
        have CB := fun w1 h => Lib.hid (ch_refframes A cap ids hcap hcm hl40 hi tx htx l (by omega) w1 h)
        generalize chOut ids l = co at *
        generalize chErr ids l = ce at *
        go_enter Try.func4, Try.ntmps4
        go_wp2_with (first
          | (go_at_call 24; refine (law09_awake _).mono ?_; rintro r v0 ⟨rfl, hg⟩; have GV : Hid (Gr w v0) := hg; clear hg)
          | (go_at_call 26; refine (CA _ (HX.out.gr GV.out)).out.mono ?_; clear CA; rintro r v3 ⟨A1, cap1, rfl, hown1, hg1⟩; have G3 : Hid (Gr w v3 ∧ SliceAt v3 A1 5 (frCell tx) co ∧ co.length ≤ cap1) := ⟨GV.out.trans hg1, hown1.slice (fun _ => rfl), hown1.cap_le.1⟩; clear hown1 hg1)
          | (go_at_call 27; refine (CB _ (HX.out.gr G3.out.1)).out.mono ?_; clear CB; rintro r v4 ⟨A2, cap2, rfl, hown2, hg2⟩; have G4 : Hid (Gr w v4 ∧ SliceAt v4 A1 5 (frCell tx) co ∧ SliceAt v4 A2 5 (frCell tx) co) := ⟨G3.out.1.trans hg2, G3.out.2.1.gr hg2, hown2.slice (fun _ => rfl)⟩; have hq1 := G3.out.2.2; have hq2 := hown2.cap_le.1; have hq3 := hown2.cap_le.2; unfold maxLen at hq3; clear hown2 hg2))
        clear G3 GV
        generalize v4 = W at *
        go_loopw [59] (fun i wr => ∃ k : Nat, k ≤ co.length ∧ i = .int .i64 (k : Nat) ∧ Hid (Gr W wr)) (fun i _ => co.length - (intOf i).toNat)
        case atStart => exact ⟨0, by omega, rfl, Gr.refl _⟩
        case round =>
          obtain ⟨k, hk, rfl, HR⟩ := hrel
          by_cases hlt : k < co.length
          · rcases G4.out.2.1 with h0 | ⟨a1, o1, rfl, hca⟩
            · subst h0; simp at hlt
            · rcases G4.out.2.2 with h0 | ⟨a2, o2, rfl, hcb⟩
              · subst h0; simp at hlt
              · have hx := List.getElem?_eq_getElem hlt
                generalize co[k] = x at hx
                obtain ⟨c0, c1, c2⟩ := x
                have a0 := HR.out.cells (hca k _ hx 0 _ rfl)
                have a1 := HR.out.cells (hca k _ hx 1 _ rfl)
                have a2 := HR.out.cells (hca k _ hx 2 _ rfl)
                have a3 := HR.out.cells (hca k _ hx 3 _ rfl)
                have a4 := HR.out.cells (hca k _ hx 4 _ rfl)
                have b0 := HR.out.cells (hcb k _ hx 0 _ rfl)
                have b1 := HR.out.cells (hcb k _ hx 1 _ rfl)
                have b2 := HR.out.cells (hcb k _ hx 2 _ rfl)
                have b3 := HR.out.cells (hcb k _ hx 3 _ rfl)
                have b4 := HR.out.cells (hcb k _ hx 4 _ rfl)
                simp only [Nat.add_zero] at a0 b0
                clear hca hcb hx
                go_wp2
                go_region
                go_wp2
                go_roundw
                case rel => exact ⟨k + 1, by omega, by go_num, HR.out.drew⟩
                case measure => simp [intOf]; omega
          · obtain rfl : k = co.length := by omega
            have HZ : Hid (Gr w wr) := G4.out.1.trans HR.out
            clear G4 HR
            by_cases hm : 1048576 < m
            · go_wp2
              go_ret
              exact ⟨rfl, HZ.out⟩
            · have CN := fun w1 => Lib.hid (ch_need m hm64 w1)
              have CR := fun w1 => Lib.hid (ch_refneed m ⟨hm64.1, by omega⟩ w1)
              generalize chNeed m = nd at *
              go_wp2_with (first
                | (go_at_call 28; refine (CN _).out.mono ?_; rintro r v6 ⟨rfl, rfl⟩)
                | (go_at_call 29; refine (CR _).out.mono ?_; rintro r v7 ⟨rfl, rfl⟩))
              go_ret
              exact ⟨rfl, HZ.out⟩
end Go.Proofs.Ytbkcfadbjebbdaa
