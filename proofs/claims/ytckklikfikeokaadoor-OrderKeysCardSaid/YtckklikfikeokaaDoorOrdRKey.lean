/- Layer 4: the document's key of a row. -/
import Derived.Test.YtckklikfikeokaaDoorOrdW2
namespace Go.Proofs.YtckklikfikeokaaDoor
open Go.RowKit
set_option linter.unusedVariables false
set_option linter.unusedSimpArgs false
set_option maxRecDepth 100000
set_option maxHeartbeats 4000000
theorem esc_app (a b : List UInt8) : esc (a ++ b) = esc a ++ esc b := by
  induction a with
  | nil => rfl
  | cons c a ih => by_cases hc : c = 0 <;> simp [esc, hc, ih]
/-- what the document has of a text, j bytes on -/
def txtB (cur T : List UInt8) (j : Nat) : List UInt8 := cur ++ 2 :: esc (T.take j)
theorem txtB_len (cur T : List UInt8) (j : Nat) (h : cur.length ≤ 255) (hT : T.length ≤ 10000) : (txtB cur T j).length ≤ 30000 := by
  have h2 := esc_length (T.take j)
  have h3 : (T.take j).length ≤ T.length := by rw [List.length_take]; omega
  unfold txtB; rw [List.length_append, List.length_cons]; omega
theorem txtB_ne (cur T : List UInt8) (j : Nat) (d : UInt8) (hj : j < T.length) (hd : T[j] = d) (h0 : d ≠ 0) : txtB cur T (j + 1) = txtB cur T j ++ [d] := by
  unfold txtB; rw [List.take_succ_eq_append_getElem hj, hd, esc_app]; simp [esc, h0]
theorem txtB_0 (cur T : List UInt8) (j : Nat) (hj : j < T.length) (hd : T[j] = 0) : txtB cur T (j + 1) = txtB cur T j ++ [0] ++ [255] := by
  unfold txtB; rw [List.take_succ_eq_append_getElem hj, hd, esc_app]; simp [esc]
theorem r4_key (A : Option Addr) (cap : Nat) (l : List Pa) (hcap : l.length ≤ cap) (hcm : cap ≤ maxLen) (hok : ∀ p ∈ l, paOk p ∧ p.2.2.size ≤ 10000) (w : World) (hs : SliceAt w A 3 paCell l) :
    Calls Tryd.prog 12 #[.slice A l.length cap] w fun r w' => r = .returned (.tuple #[.string (keyAns l).1, .int .i64 (keyAns l).2]) ∧ Gr w w' := by
  unfold maxLen at hcm
  obtain ⟨ans, hans⟩ : ∃ ans, ans = keyAns l := ⟨_, rfl⟩
  rw [← hans]
  have HA := Lib.hid hans
  clear hans
  have HX := Lib.hid (And.intro hs hok)
  clear hs hok
  go_enter Tryd.func12, Tryd.ntmps12
  go_wp2
  go_loopw [4, 10] (fun s i wr => ∃ k : Nat, k ≤ l.length ∧ i = .int .i64 (k : Nat) ∧ s = .string (B (keyB (l.take k))) ∧ (keyB (l.take k)).length ≤ 255 ∧ Hid (Gr w wr)) (fun _ i _ => l.length - (intOf i).toNat)
  case atStart => exact ⟨0, by omega, rfl, rfl, by simp [keyB], Gr.refl _⟩
  case round =>
    obtain ⟨k, hk, rfl, rfl, hkl, HR⟩ := hrel
    by_cases hlt : k < l.length
    · rcases HX.out.1 with h0 | ⟨a, off, rfl, hcell⟩
      · subst h0; simp at hlt
      have hget := List.getElem?_eq_getElem hlt
      have hsn := keyB_snoc l k hlt
      have hokp := HX.out.2 l[k] (List.getElem_mem hlt)
      generalize l[k] = p at *
      obtain ⟨p0, p1, p2⟩ := p
      obtain ⟨T, rfl⟩ : ∃ T, p2 = B T := ⟨p2.data.toList, rfl⟩
      have a0 := HR.out.cells (hcell k _ hget 0 _ rfl)
      have a1 := HR.out.cells (hcell k _ hget 1 _ rfl)
      have a2 := HR.out.cells (hcell k _ hget 2 _ rfl)
      simp only [Nat.add_zero] at a0
      clear hcell hget
      obtain ⟨nx, hnx⟩ : ∃ nx, nx = keyB (l.take (k + 1)) := ⟨_, rfl⟩
      have HNX := Lib.hid hnx
      rw [← hnx] at hsn
      clear hnx
      have htk := keyB_take l (k + 1)
      rw [← HNX.out] at htk
      generalize keyB (l.take k) = cur at *
      have HO := Lib.hid hokp.1
      have hT : T.length ≤ 10000 := by have := hokp.2; simp only [B_size] at this; exact this
      clear hokp
      have hw0 := heap_alloc_last wr (.cells #[.bool p0, .int .u64 (p1 : Nat), .string (B T)] 27)
      have HG0 : Hid (Gr w (wr.alloc (.cells #[.bool p0, .int .u64 (p1 : Nat), .string (B T)] 27))) := HR.out.alloc _
      have x0 := row_cell hw0 0 _ rfl
      have x1 := row_cell hw0 1 _ rfl
      have x2 := row_cell hw0 2 _ rfl
      cases p0
      · have hsz : nx.length = cur.length + 1 + 8 := by rw [hsn]; simp [paB, Oct.be_length]
        have HB : Hid (B cur ++ B [1] ++ B (Oct.be p1 8) = B nx) := by
          unfold Hid; rw [B_app, B_app, hsn, List.append_assoc]; rfl
        have cO : ∀ w1, Hid (Calls Tryd.prog 30 #[.int .u64 1, .int .i64 1] w1 fun r w' => r = .returned (.string (B [1])) ∧ Gr w1 w') := fun w1 => ref_big 1 (by unfold U64; omega) 1 (by omega) w1
        have cE : ∀ w1, Hid (Calls Tryd.prog 30 #[.int .u64 (p1 : Nat), .int .i64 8] w1 fun r w' => r = .returned (.string (B (Oct.be p1 8))) ∧ Gr w1 w') := fun w1 => ref_big p1 HO.out 8 (by omega) w1
        have z0 := B_size cur
        have z1 : (B [1]).size = 1 := rfl
        have z2 := B_be_size p1 8
        have zn := B_size nx
        have HSN := Lib.hid hsn
        clear hsn hT
        generalize B [1] = g1 at *
        generalize B (Oct.be p1 8) = g2 at *
        have hno : ¬ (9223372036854775807 < cur.length + 1) := by omega
        have hno2 : ¬ (9223372036854775807 < cur.length + 1 + 8) := by omega
        go_wp2
        generalize wr.alloc (.cells #[.bool false, .int .u64 (p1 : Nat), .string (B T)] 27) = W at *
        generalize wr.heap.size = g at *
        have HQ := Lib.hid x1
        go_region_held3 (fun w' => w'.cell? ⟨g, 1, none⟩ = some (.int .u64 (p1 : Nat))) (first | exact HQ.out | assumption)
          (first
            | (go_at_call_of 30 (Value.int .u64 1); refine (cO _).out.mono ?_; clear cO; rintro r v1 ⟨rfl, hg⟩; have HV1 : Hid (Gr W v1) := (Gr.refl W).drew.trans hg; have HQ := Lib.hid (HV1.out.cells x1); clear hg)
            | (go_at_call 30; refine (cE _).out.mono ?_; clear cE; rintro r v2 ⟨rfl, hg⟩; have HV2 : Hid (Gr W v2) := HV1.out.trans hg; have HQ := Lib.hid (HV2.out.cells x1); clear hg))
        rw [HB.out]
        have HGZ := Lib.hid (HG0.out.trans HV2.out)
        clear hsz
        by_cases hbig : 255 < nx.length
        · have hbig2 : (255 : Int) < ((nx.length : Nat) : Int) := by omega
          have HA2 : Hid (ans = (.empty, 5)) := HA.out.trans (by unfold keyAns; rw [if_pos (by omega)])
          obtain rfl := HA2.out
          go_wp2
          go_ret2
          exact ⟨rfl, HGZ.out⟩
        · have hbig2 : ¬ (255 : Int) < ((nx.length : Nat) : Int) := by omega
          go_wp2
          go_roundw
          case rel => exact ⟨k + 1, by omega, by go_num, by rw [← HNX.out], by rw [← HNX.out]; omega, HGZ.out⟩
          case measure => simp [intOf]; omega
      · have HB : Hid (B (txtB cur T T.length) ++ B [0, 0] = B nx) := by
          unfold Hid; rw [B_app, hsn]; unfold txtB paB; rw [List.take_length, B_list]; simp
        have hsz : nx.length = (txtB cur T T.length).length + 2 := by rw [← B_size nx, ← HB.out, B_app, B_size]; simp
        have HSN := Lib.hid hsn
        clear hsn
        have c2 : ∀ w1, Hid (Calls Tryd.prog 30 #[.int .u64 2, .int .i64 1] w1 fun r w' => r = .returned (.string (B [2])) ∧ Gr w1 w') := fun w1 => ref_big 2 (by unfold U64; omega) 1 (by omega) w1
        have z0 := B_size cur
        have z1 : (B [2]).size = 1 := rfl
        have hno : ¬ (9223372036854775807 < cur.length + 1) := by omega
        have HB1 : Hid (B cur ++ B [2] = B (txtB cur T 0)) := by unfold Hid; rw [B_app]; rfl
        generalize B [2] = g1 at *
        go_wp2_with (go_at_call 30; refine (c2 _).out.mono ?_; clear c2; rintro r v1 ⟨rfl, hg⟩; have HG1 := Lib.hid (HG0.out.trans hg); have x2v := Lib.hid (hg.cells x2); clear hg)
        have HZ : Hid (wr.heap.size = wr.heap.size) := rfl
        generalize wr.heap.size = g at *
        clear x0 x1 x2 hw0 HZ
        rw [HB1.out]
        go_loopw [4, 7] (fun s i wi => ∃ j : Nat, j ≤ T.length ∧ i = .int .i64 (j : Nat) ∧ s = .string (B (txtB cur T j)) ∧ Hid (Gr v1 wi)) (fun _ i _ => T.length - (intOf i).toNat)
        case atStart => exact ⟨0, by omega, rfl, rfl, Gr.refl _⟩
        case round =>
          obtain ⟨j, hj, rfl, rfl, HRI⟩ := hrel
          have y2 := HRI.out.cells x2v.out
          have HGI := Lib.hid (HG1.out.trans HRI.out)
          have hzT := B_size T
          have hzj := B_size (txtB cur T j)
          have hzl := txtB_len cur T j hkl hT
          by_cases hjl : j < T.length
          · have hjb : j < (B T).size := by rw [hzT]; exact hjl
            obtain ⟨d, hd⟩ : ∃ d : UInt8, (B T)[j] = d := ⟨_, rfl⟩
            have hdT : T[j] = d := hd
            have hj0 : (0 : Int) ≤ (j : Int) := by omega
            have hjz : (j : Int) < ((T.length : Nat) : Int) := by omega
            have hjz1 : (j : Int) + 1 ≤ ((T.length : Nat) : Int) := by omega
            have hjw : IntKind.i64.wrap ((j : Int) + 1) = (j : Int) + 1 := by rw [IntKind.wrap_i64]; omega
            have hjle : (j : Int) ≤ (j : Int) + 1 := by omega
            have hjt : (j : Int).toNat = j := by omega
            have hjt1 : ((j : Int) + 1).toNat = j + 1 := by omega
            have HBX : Hid ((B T).extract j (j + 1) = B [d]) := by
              unfold Hid; rw [B_extract, ← hdT]
              rw [List.drop_eq_getElem_cons hjl, show j + 1 - j = 1 by omega]; rfl
            have hex : ((B T).extract j (j + 1)).size = 1 := by rw [HBX.out]; rfl
            have hmin : min (j + 1) T.length - j = 1 := by omega
            have hno5 : ¬ (9223372036854775807 < (txtB cur T j).length + 1) := by omega
            have hno6 : ¬ (9223372036854775807 < (txtB cur T j).length + 1 + 1) := by omega
            by_cases h0 : d = 0
            · have HT : Hid (B (txtB cur T j) ++ (B T).extract j (j + 1) ++ B [255] = B (txtB cur T (j + 1))) := by
                unfold Hid; rw [HBX.out, B_app, B_app, txtB_0 cur T j hjl (hdT.trans h0), h0]
              have hc1 : (((B T)[j].toNat : Nat) : Int) = 0 := by rw [hd, h0]; rfl
              have c255 : ∀ w1, Hid (Calls Tryd.prog 30 #[.int .u64 255, .int .i64 1] w1 fun r w' => r = .returned (.string (B [255])) ∧ Gr w1 w') := fun w1 => ref_big 255 (by unfold U64; omega) 1 (by omega) w1
              have z3 : (B [255]).size = 1 := rfl
              generalize B [255] = g3 at *
              clear hd hdT hsz hzl
              go_wp2_with (go_at_call 30; refine (c255 _).out.mono ?_; clear c255; rintro r v4 ⟨rfl, hg⟩; have HGZ := Lib.hid (HRI.out.trans hg); clear hg)
              go_roundw
              case rel => exact ⟨j + 1, by omega, by go_num, by rw [← HT.out], HGZ.out⟩
              case measure => (simp [intOf]; try omega)
            · have HT : Hid (B (txtB cur T j) ++ (B T).extract j (j + 1) = B (txtB cur T (j + 1))) := by
                unfold Hid; rw [HBX.out, B_app, txtB_ne cur T j d hjl hdT h0]
              have hc1 : ¬ (((B T)[j].toNat : Nat) : Int) = 0 := by
                rw [hd]; intro e; exact h0 (UInt8.toNat.inj (by show d.toNat = 0; omega))
              clear hd hdT hsz hzl
              go_wp2
              go_roundw
              case rel => exact ⟨j + 1, by omega, by go_num, by rw [← HT.out], HRI.out⟩
              case measure => (simp [intOf]; try omega)
          · obtain rfl : j = T.length := by omega
            generalize B (txtB cur T T.length) = sb at *
            generalize (txtB cur T T.length).length = sl at *
            have c0 : ∀ w1, Hid (Calls Tryd.prog 30 #[.int .u64 0, .int .i64 2] w1 fun r w' => r = .returned (.string (B [0, 0])) ∧ Gr w1 w') := fun w1 => ref_big 0 (by unfold U64; omega) 2 (by omega) w1
            have z2 : (B [0, 0]).size = 2 := rfl
            have hno3 : ¬ (9223372036854775807 < sl + 2) := by omega
            by_cases hbig : 255 < sl + 2
            · have hbig2 : (255 : Int) < (sl : Int) + 2 := by omega
              have HA2 : Hid (ans = (.empty, 5)) := HA.out.trans (by unfold keyAns; rw [if_pos (by omega)])
              obtain rfl := HA2.out
              clear hsz
              generalize B [0, 0] = g2 at *
              go_wp2_with (go_at_call 30; refine (c0 _).out.mono ?_; clear c0; rintro r v4 ⟨rfl, hg⟩; have HGZ := Lib.hid (HGI.out.trans hg); clear hg)
              go_ret2
              exact ⟨rfl, HGZ.out⟩
            · have hbig2 : ¬ (255 : Int) < (sl : Int) + 2 := by omega
              have hnl : Hid (nx.length ≤ 255) := by unfold Hid; omega
              clear hsz
              generalize B [0, 0] = g2 at *
              go_wp2_with (go_at_call 30; refine (c0 _).out.mono ?_; clear c0; rintro r v4 ⟨rfl, hg⟩; have HGZ := Lib.hid (HGI.out.trans hg); clear hg)
              go_roundw
              case rel => exact ⟨k + 1, by omega, by go_num, by rw [← HNX.out, ← HB.out], by rw [← HNX.out]; exact hnl.out, HGZ.out⟩
              case measure => (simp [intOf]; try omega)
    · obtain rfl : k = l.length := by omega
      rw [List.take_length] at hkl ⊢
      have HA2 : Hid (ans = (B (keyB l), 0)) := HA.out.trans (by unfold keyAns; rw [if_neg (by omega)])
      obtain rfl := HA2.out
      go_wp2
      go_ret2
      exact ⟨rfl, HR.out⟩
end Go.Proofs.YtckklikfikeokaaDoor
