/- Layer 4: the document's text behind a beginning. -/
import Derived.Test.YtckklikfikeokaaDoorOrdW1
namespace Go.Proofs.YtckklikfikeokaaDoor
open Go.RowKit
set_option linter.unusedVariables false
set_option linter.unusedSimpArgs false
set_option maxRecDepth 100000
set_option maxHeartbeats 2000000
theorem B_get (l : List UInt8) (j : Nat) (h : j < l.length) (h2 : j < (B l).size) : (B l)[j] = l[j] := rfl
def vLen (v : Value) : Nat := match v with | .string s => s.size | _ => 0
theorem r4_after (P : List UInt8) (hp : P.length ≤ 100000) (w : World) :
    Calls Tryd.prog 25 #[.string (B P)] w fun r w' => r = .returned (.tuple #[.string (aftAns P).1, .bool (aftAns P).2]) ∧ Gr w w' := by
  obtain ⟨ans, hans⟩ : ∃ ans, ans = aftAns P := ⟨_, rfl⟩
  rw [← hans]
  have HA := Lib.hid hans
  clear hans
  have HPL := Lib.hid hp
  go_enter Tryd.func25, Tryd.ntmps25
  go_wp2
  go_loopw [0] (fun v wr => ∃ Q : List UInt8, Q.length ≤ P.length ∧ v = .string (B Q) ∧ Hid (Gr w wr ∧ aftB P = aftB Q)) (fun v _ => vLen v)
  case atStart => exact ⟨P, Nat.le_refl _, rfl, Gr.refl _, rfl⟩
  case round =>
    obtain ⟨Q, hQ, rfl, HR⟩ := hrel
    have zQ := B_size Q
    by_cases h0 : Q = []
    · subst h0
      have HA2 : Hid (ans = (.empty, false)) := by
        refine HA.out.trans ?_
        unfold aftAns; rw [HR.out.2, aftB_nil]
      obtain rfl := HA2.out
      simp only [List.length_nil] at zQ
      go_wp2
      go_ret2
      exact ⟨rfl, HR.out.1⟩
    · obtain ⟨q, d, rfl⟩ : ∃ q d, Q = q ++ [d] := ⟨Q.dropLast, Q.getLast h0, (List.dropLast_concat_getLast h0).symm⟩
      clear h0
      obtain ⟨j, hjq⟩ : ∃ j, q.length = j := ⟨_, rfl⟩
      have hm : (q ++ [d]).length = j + 1 := by simp [hjq]
      have hjb : j < (B (q ++ [d])).size := by rw [zQ, hm]; omega
      have hd : (B (q ++ [d]))[j] = d := by have h2 : (q ++ [d])[j]'(by rw [hm]; omega) = d := (by subst hjq; simp); exact h2
      have HB1 : Hid ((B (q ++ [d])).extract 0 j = B q) := by unfold Hid; rw [B_extract, ← hjq]; simp
      have HEX : Hid (((B (q ++ [d])).extract 0 j).size = j) := by unfold Hid; rw [HB1.out, B_size, hjq]
      rw [hm] at hQ zQ
      have HS := Lib.hid (And.intro hQ hjq)
      have HAF : Hid (aftB P = aftB (q ++ [d])) := HR.out.2
      have HW : Hid (Gr w wr) := HR.out.1
      have HLQ : Hid (j + 1 ≤ 100000) := by unfold Hid; have := HPL.out; omega
      clear hm HR hQ hjq
      generalize hQB : B (q ++ [d]) = QB at *
      clear hQB
      obtain ⟨m, hm⟩ : ∃ m, m = j + 1 := ⟨_, rfl⟩
      rw [← hm] at zQ
      have hm0 : (0 : Int) < (m : Int) := by omega
      have hm1 : (m : Int) - 1 = (j : Int) := by omega
      have hjw2 : IntKind.i64.wrap (j : Int) = (j : Int) := by rw [IntKind.wrap_i64]; have := HLQ.out; omega
      have hj0 : (0 : Int) ≤ (j : Int) := by omega
      have hjt : (j : Int).toNat = j := by omega
      have hjm : (j : Int) < (m : Int) := by omega
      have hjm2 : (j : Int) ≤ (m : Int) := by omega
      have HMS : Hid (QB.size = j + 1 ∧ m = j + 1) := ⟨zQ.trans hm, hm⟩
      clear hm
      by_cases hc : d = 255
      · have HT : Hid (Gr w wr ∧ aftB P = aftB q) := ⟨HW.out, by rw [HAF.out, hc, aftB_255]⟩
        have hc1 : ((QB[j].toNat : Nat) : Int) = 255 := by rw [hd, hc]; rfl
        clear hc hd
        go_wp2
        go_roundw
        case rel => exact ⟨q, by have := HS.out; omega, by rw [HB1.out], HT⟩
        case measure => (have h2 := HMS.out.1; have h3 := HEX.out; show (QB.extract 0 j).size < QB.size; omega)
      · have HT : Hid (ans = (B (q ++ [d + 1]), true)) := by
          refine HA.out.trans ?_
          unfold aftAns; rw [HAF.out, aftB_ne _ _ hc]
        have HB2 : Hid (QB.extract 0 j ++ B (Oct.be (d.toNat + 1) 1) = B (q ++ [d + 1])) := by
          unfold Hid
          rw [HB1.out, B_app]
          congr 2
        have hc1 : ¬ ((QB[j].toNat : Nat) : Int) = 255 := by
          rw [hd]
          intro e
          exact hc (UInt8.toNat.inj (by show d.toNat = 255; omega))
        generalize B (q ++ [d + 1]) = R at *
        rw [← hd] at HB2
        have hc9 : QB[j].toNat < 255 := by have := QB[j].toNat_lt; omega
        have cO := fun w1 => Lib.hid (ref_big (QB[j].toNat + 1) (by unfold U64; omega) 1 (by omega) w1)
        have e1 : ((QB[j].toNat + 1 : Nat) : Int) = ((QB[j].toNat : Nat) : Int) + 1 := by omega
        simp only [e1] at cO
        have hw8 : IntKind.u64.wrap (((QB[j].toNat : Nat) : Int) + 1) = ((QB[j].toNat : Nat) : Int) + 1 := by rw [IntKind.wrap_u64]; omega
        have hw9 : IntKind.u64.wrap ((QB[j].toNat : Nat) : Int) = ((QB[j].toNat : Nat) : Int) := by rw [IntKind.wrap_u64]; omega
        have hz2 := B_be_size (QB[j].toNat + 1) 1
        generalize B (Oct.be (QB[j].toNat + 1) 1) = g1 at *
        clear e1 hc hd hc9
        have hno2 : ¬ (9223372036854775807 < j + 1) := by have := HLQ.out; omega
        have hmin : min j m = j := by have := HMS.out; omega
        go_wp2_with ((go_at_call 30; refine (cO _).out.mono ?_; clear cO; rintro r v1 ⟨rfl, hg⟩; have HV1 := Lib.hid hg; clear hg))
        go_ret2
        exact ⟨(by rw [HT.out, ← HB2.out]; rfl), HW.out.trans HV1.out⟩
end Go.Proofs.YtckklikfikeokaaDoor
