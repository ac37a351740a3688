/- Layer 20: the document's Name. -/
import Derived.Test.YtdpildbdbbfamaaDoorBase
import Derived.Test.YtdpildbdbbfamaaDoorOctMath
namespace Go.Proofs.YtdpildbdbbfamaaDoor
open Go.RowKit
set_option linter.unusedVariables false
set_option linter.unusedSimpArgs false
set_option maxRecDepth 100000
set_option maxHeartbeats 2000000
def goodL : List UInt8 := [97, 98, 99, 100, 101, 102, 103, 104, 105, 106, 107, 108, 109, 110, 111, 112, 113, 114, 115, 116, 117, 118, 119, 120, 121, 122, 65, 66, 67, 68, 69, 70, 71, 72, 73, 74, 75, 76, 77, 78, 79, 80, 81, 82, 83, 84, 85, 86, 87, 88, 89, 90, 48, 49, 50, 51, 52, 53, 54, 55, 56, 57, 45, 95]
def rnameB (s : List UInt8) : Bool := s.all (fun c => goodL.contains c) && (decide (0 < s.length) && decide (s.length ≤ 32))
theorem contains_take (L : List UInt8) (k : Nat) (hk : k < L.length) (c : UInt8) : (L.take (k + 1)).contains c = ((L.take k).contains c || L[k] == c) := by
  rw [List.take_succ_eq_append_getElem hk, Bool.eq_iff_iff]
  simp only [List.contains_iff_mem, List.mem_append, List.mem_singleton, Bool.or_eq_true, beq_iff_eq]
  exact or_congr Iff.rfl eq_comm
theorem all_take (p : UInt8 → Bool) (s : List UInt8) (k : Nat) (hk : k < s.length) : (s.take (k + 1)).all p = ((s.take k).all p && p s[k]) := by
  rw [List.take_succ_eq_append_getElem hk, List.all_append]
  simp
theorem rf_name (s : List UInt8) (hs : s.length ≤ 4000) (w : World) : Calls Tryd.prog 17 #[.string (B s)] w fun r w' => r = .returned (.bool (rnameB s)) ∧ Gr w w' := by
  have hz := B_size s
  have hgl : goodL.length = 64 := rfl
  have hA : Hid (rnameB s = (s.all (fun c => goodL.contains c) && (decide (0 < s.length) && decide (s.length ≤ 32)))) := rfl
  have hB : (⟨#[97, 98, 99, 100, 101, 102, 103, 104, 105, 106, 107, 108, 109, 110, 111, 112, 113, 114, 115, 116, 117, 118, 119, 120, 121, 122, 65, 66, 67, 68, 69, 70, 71, 72, 73, 74, 75, 76, 77, 78, 79, 80, 81, 82, 83, 84, 85, 86, 87, 88, 89, 90, 48, 49, 50, 51, 52, 53, 54, 55, 56, 57, 45, 95]⟩ : ByteArray) = B goodL := rfl
  generalize rnameB s = ans at *
  go_enter Tryd.func17, Tryd.ntmps17
  rw [hB]
  clear hB
  generalize goodL = G at *
  have hzG := B_size G
  rw [hgl] at hzG
  have HGL := Lib.hid hgl
  clear hgl
  go_wp2
  go_loopw [3] (fun i wr => ∃ k : Nat, k ≤ s.length ∧ i = .int .i64 (k : Nat) ∧ Hid ((s.take k).all (fun c => G.contains c) = true ∧ Gr w wr)) (fun i _ => s.length - (intOf i).toNat)
  case atStart => exact ⟨0, by omega, rfl, rfl, Gr.refl _⟩
  case round =>
    obtain ⟨k, hk, rfl, HR⟩ := hrel
    by_cases hlt : k < s.length
    case neg =>
      obtain rfl : k = s.length := by omega
      have HAL : Hid (s.all (fun c => G.contains c) = true) := by
        have h := HR.out.1
        rw [List.take_length] at h
        exact h
      go_wp2
      all_goals go_ret
      all_goals (refine ⟨congrArg (fun b => Ending.returned (Value.bool b)) (?_ : _ = ans), HR.out.2⟩)
      all_goals rw [hA.out, HAL.out]
      all_goals first | (simp; done) | (simp; omega) | (rw [Bool.eq_iff_iff]; simp; omega)
    have hlt' : ((k : Nat) : Int) < ((s.length : Nat) : Int) := by omega
    have hbk : (B s)[k]'(by rw [B_size]; exact hlt) = s[k] := by rfl
    obtain ⟨c, hc⟩ : ∃ c, s[k] = c := ⟨_, rfl⟩
    have HALL := Lib.hid (all_take (fun c => G.contains c) s k hlt)
    rw [hc] at hbk
    have hkb : k < (B s).size := by rw [hz]; exact hlt
    have HS : Hid ((s.take k).all (fun c => G.contains c) = true ∧ (s.take (k + 1)).all (fun c => G.contains c) = G.contains c) := ⟨HR.out.1, by rw [HALL.out, HR.out.1, hc]; rfl⟩
    have HGR : Hid (Gr w wr) := HR.out.2
    clear HALL hc
    go_wp2
    generalize hpre : wr = wp at *
    clear hpre
    go_loopw [4, 5] (fun ok jv wi => ∃ j : Nat, j ≤ 64 ∧ jv = .int .i64 (j : Nat) ∧ ok = .bool ((G.take j).contains c) ∧ Hid (Gr w wi)) (fun _ jv _ => 64 - (intOf jv).toNat)
    case atStart => exact ⟨0, by omega, rfl, rfl, HGR.out⟩
    case round =>
      obtain ⟨j, hj, rfl, rfl, HJ⟩ := hrel
      by_cases hjl : j < 64
      case neg =>
        obtain rfl : j = 64 := by omega
        have htl : List.take 64 G = G := List.take_of_length_le (by rw [HGL.out]; omega)
        rw [htl]
        cases hgc : G.contains c with
        | true =>
          have HT := Lib.hid hgc
          clear hgc
          go_wp2
          go_roundw
          case rel => exact ⟨k + 1, by omega, by go_num, by rw [HS.out.2, HT.out], HJ.out⟩
          case measure => (simp [intOf]; try omega)
        | false =>
          have HT := Lib.hid hgc
          have HF : Hid (s.all (fun c => G.contains c) = false) := by
            show _ = _
            rw [Bool.eq_false_iff]
            intro h
            have h2 : (s.take (k + 1)).all (fun c => G.contains c) = true := by
              rw [List.all_eq_true] at h ⊢
              exact fun x hx => h x (List.mem_of_mem_take hx)
            rw [HS.out.2, HT.out] at h2
            cases h2
          clear hgc
          go_wp2
          go_ret
          exact ⟨by rw [hA.out, HF.out]; rfl, HJ.out⟩
      have hjl' : ((j : Nat) : Int) < 64 := by omega
      have hbg : (B G)[j]'(by rw [hzG]; exact hjl) = G[j]'(by rw [HGL.out]; exact hjl) := rfl
      obtain ⟨d, hd⟩ : ∃ d, G[j]'(by rw [HGL.out]; exact hjl) = d := ⟨_, rfl⟩
      have hct := contains_take G j (by rw [HGL.out]; exact hjl) c
      rw [hd] at hbg hct
      have HCT := Lib.hid hct
      have hdc : (((d.toNat : Nat) : Int) == ((c.toNat : Nat) : Int)) = (d == c) := by
        rw [Bool.eq_iff_iff, beq_iff_eq, beq_iff_eq]
        exact ⟨fun h => UInt8.toNat_inj.1 (by omega), fun h => by rw [h]⟩
      clear hct hd
      generalize (d == c) = e at *
      generalize (G.take j).contains c = b at *
      have hjk : j < (B G).size := by rw [hzG]; exact hjl
      cases b with
      | true =>
        go_wp2
        go_quiet (fail)
        go_wp2
        go_roundw
        case rel => exact ⟨j + 1, by omega, by go_num, by rw [HCT.out]; rfl, HJ.out.drewN _⟩
        case measure => (simp [intOf]; try omega)
      | false =>
        go_wp2
        go_quiet (fail)
        go_wp2
        go_roundw
        case rel => exact ⟨j + 1, by omega, by go_num, by rw [HCT.out]; rfl, HJ.out.drewN _⟩
        case measure => (simp [intOf]; try omega)
end Go.Proofs.YtdpildbdbbfamaaDoor
