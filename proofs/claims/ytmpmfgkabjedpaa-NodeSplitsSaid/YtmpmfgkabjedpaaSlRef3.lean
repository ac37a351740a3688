/- Layer 6: a body, by the document (printed by slref3_gen.py). -/
import Derived.Test.YtmpmfgkabjedpaaSlRef2
import Derived.Test.YtmpmfgkabjedpaaSl5
namespace Go.Proofs.Ytmpmfgkabjedpaa
open Go.RowKit
set_option linter.unusedVariables false
set_option linter.unusedSimpArgs false
set_option maxRecDepth 100000
set_option maxHeartbeats 4000000
theorem B_bytes (q : ByteArray) : B q.data.toList = q := by cases q; simp [B]
theorem rf_body (leaf : Bool) (A : Option Addr) (cap : Nat) (xs : List Ce) (hcap : xs.length ≤ cap) (hcm : cap ≤ maxLen) (hl : xs.length ≤ 4000) (hx : ∀ x ∈ xs, ceOk x) (w : World) (hs : SliceAt w A 4 ceCell xs) :
    Calls Try.prog 54 #[.slice A xs.length cap, .bool leaf] w fun r w' => r = .returned (.tuple #[.string (slBody (rcErr leaf xs) (xs.map (rcB leaf))).1, .int .i64 (slBody (rcErr leaf xs) (xs.map (rcB leaf))).2]) ∧ Gr w w' := by
  have HX := Lib.hid (And.intro hs (And.intro hx hcm))
  have cR := fun w1 (h1 : Gr w w1) => Lib.hid (rf_right leaf A cap xs hcap hcm hl hx w1 (hs.gr h1))
  have cS := fun w1 (h1 : Gr w w1) => Lib.hid (rf_sum leaf A cap xs hcap hcm hl hx w1 (hs.gr h1))
  clear hs hx hcm
  have hsum : rcSum leaf xs = slLen (xs.map (rcB leaf)) := by unfold rcSum slLen; rw [List.map_map]; rfl
  generalize hbd : slBody (rcErr leaf xs) (xs.map (rcB leaf)) = bd at *
  generalize rcErr leaf xs = er at *
  rw [hsum] at cS
  clear hsum
  have HBD := Lib.hid hbd
  clear hbd
  have HW : Hid (Gr w w) := Gr.refl w
  go_enter Try.func54, Try.ntmps54
  by_cases he : er = 0
  case neg =>
    have hne : (er != 0) = true := by simpa using he
    have hb1 : bd = (.empty, er) := by rw [← HBD.out]; unfold slBody; rw [if_pos he]
    subst hb1
    go_wp2_with (first
      | (go_at_call 94; refine (cR _ HW.out).out.mono ?_; clear cR; rintro r v2 ⟨rfl, hg⟩; have v2g : Hid (Gr w v2) := HW.out.trans hg; clear hg))
    go_ret2
    exact ⟨rfl, v2g.out⟩
  subst he
  by_cases hf : 4072 < slLen (xs.map (rcB leaf))
  · have hf2 : (4072 : Int) < ((slLen (xs.map (rcB leaf)) : Nat) : Int) := by omega
    have hb1 : bd = (.empty, 14) := by rw [← HBD.out]; unfold slBody; rw [if_neg (by simp), if_pos hf]
    subst hb1
    go_wp2_with (first
      | (go_at_call 94; refine (cR _ HW.out).out.mono ?_; clear cR; rintro r v2 ⟨rfl, hg⟩; have v2g : Hid (Gr w v2) := HW.out.trans hg; clear hg)
      | (go_at_call 44; refine (cS _ v2g.out).out.mono ?_; clear cS; rintro r v3 ⟨rfl, hg⟩; have v3g : Hid (Gr w v3) := v2g.out.trans hg; clear hg))
    go_ret2
    exact ⟨rfl, v3g.out⟩
  · have hf2 : ¬ (4072 : Int) < ((slLen (xs.map (rcB leaf)) : Nat) : Int) := by omega
    have hb1 : bd = (B (slAt xs.length (xs.map (rcB leaf)) 0 ++ slCells (xs.map (rcB leaf))), 0) := by rw [← HBD.out]; unfold slBody; rw [if_neg (by simp), if_neg hf, List.length_map]; rfl
    obtain ⟨bd1, bd2⟩ := bd
    obtain ⟨hb2, rfl⟩ : bd1 = _ ∧ bd2 = 0 := by injection hb1 with h1 h2; exact ⟨h1, h2⟩
    have HBO := Lib.hid hb2
    clear HBD hb1 hb2
    have hcl : (slCells (xs.map (rcB leaf))).length ≤ 4072 := by have := slCells_len (xs.map (rcB leaf)); omega
    clear hf
    go_wp2_with (first
      | (go_at_call 94; refine (cR _ HW.out).out.mono ?_; clear cR; rintro r v2 ⟨rfl, hg⟩; have v2g : Hid (Gr w v2) := HW.out.trans hg; clear hg)
      | (go_at_call 44; refine (cS _ v2g.out).out.mono ?_; clear cS; rintro r v3 ⟨rfl, hg⟩; have v3g : Hid (Gr w v3) := v2g.out.trans hg; clear hg))
    have HV : Hid (Gr w v3) := v3g.out
    clear HW v2g v3g hf2
    generalize v3 = W at *
    go_loopw [7, 8, 23] (fun va vb i wr => ∃ k : Nat, k ≤ xs.length ∧ i = .int .i64 (k : Nat) ∧ va = .string (B (slAt xs.length ((xs.take k).map (rcB leaf)) 0)) ∧ vb = .string (B (slCells ((xs.take k).map (rcB leaf)))) ∧ Hid (Gr w wr)) (fun _ _ i _ => xs.length - (intOf i).toNat)
    case atStart => exact ⟨0, by omega, rfl, rfl, rfl, HV.out⟩
    case round =>
      obtain ⟨k, hk, rfl, rfl, rfl, HR⟩ := hrel
      clear HV
      by_cases hlt : k < xs.length
      · rcases HX.out.1 with h0 | ⟨a, off, rfl, hcell⟩
        · subst h0; simp at hlt
        · have hget := List.getElem?_eq_getElem hlt
          have hxo := HX.out.2.1 xs[k] (List.getElem_mem hlt)
          have HS1 : Hid (slCells ((xs.take (k + 1)).map (rcB leaf)) = slCells ((xs.take k).map (rcB leaf)) ++ (rcB leaf xs[k]).data.toList) := by
            unfold Hid; rw [List.take_succ_eq_append_getElem hlt, List.map_append]; exact slCells_snoc _ _
          have HS2 : Hid (slAt xs.length ((xs.take (k + 1)).map (rcB leaf)) 0 = slAt xs.length ((xs.take k).map (rcB leaf)) 0 ++ Oct.be (2 * xs.length + (slCells ((xs.take k).map (rcB leaf))).length) 2) := by
            unfold Hid; rw [List.take_succ_eq_append_getElem hlt, List.map_append]; simpa using slAt_snoc xs.length (rcB leaf xs[k]) ((xs.take k).map (rcB leaf)) 0
          have hlc : (slCells ((xs.take k).map (rcB leaf))).length ≤ 4072 := by rw [List.map_take]; exact Nat.le_trans (slCells_take _ k) hcl
          have hla : (slAt xs.length ((xs.take k).map (rcB leaf)) 0).length ≤ 8000 := by rw [slAt_length, List.length_map, List.length_take]; omega
          generalize slCells ((xs.take k).map (rcB leaf)) = lc at *
          generalize slAt xs.length ((xs.take k).map (rcB leaf)) 0 = la at *
          have zla : (B la).size = la.length := B_size _
          have zlc : (B lc).size = lc.length := B_size _
          generalize xs[k] = x at *
          obtain ⟨e0, e1, e2, e3⟩ := x
          have a0 := HR.out.cells (hcell k _ hget 0 _ rfl)
          have a1 := HR.out.cells (hcell k _ hget 1 _ rfl)
          have a2 := HR.out.cells (hcell k _ hget 2 _ rfl)
          have a3 := HR.out.cells (hcell k _ hget 3 _ rfl)
          simp only [Nat.add_zero] at a0
          have HC := Lib.hid (And.intro hcell hget)
          clear hcell hget
          have hz := rcB_size leaf (e0, e1, e2, e3) hxo
          have cP := fun w1 => Lib.hid (rf_cell e0 e1 e2 e3 hxo.1 hxo.2.1 hxo.2.2.1 hxo.2.2.2 leaf w1)
          clear hxo
          have HQ : Hid (B lc ++ rcB leaf (e0, e1, e2, e3) = B (lc ++ (rcB leaf (e0, e1, e2, e3)).data.toList)) := by unfold Hid; rw [← B_app, B_bytes]
          have HQ2 : Hid (B la ++ B (Oct.be (2 * xs.length + lc.length) 2) = B (la ++ Oct.be (2 * xs.length + lc.length) 2)) := B_app _ _
          generalize rcB leaf (e0, e1, e2, e3) = q at *
          have cT := fun w1 => Lib.hid (ref_big (2 * xs.length + lc.length) (by unfold U64; omega) 2 (by omega) w1)
          have hz2 := B_be_size (2 * xs.length + lc.length) 2
          have hw1 : IntKind.u64.wrap ((2 * (xs.length : Int) + (lc.length : Int))) = ((2 * xs.length + lc.length : Nat) : Int) := by rw [← wrap_u64_of (2 * xs.length + lc.length) (by unfold U64; omega)]; congr 1
          have hw2 : IntKind.i64.wrap (2 * (xs.length : Int)) = 2 * (xs.length : Int) := by rw [IntKind.wrap_i64]; omega
          have hw3 : IntKind.i64.wrap (2 * (xs.length : Int) + (lc.length : Int)) = 2 * (xs.length : Int) + (lc.length : Int) := by rw [IntKind.wrap_i64]; omega
          generalize B (Oct.be (2 * xs.length + lc.length) 2) = ob at *
          generalize hqa : B la = qa at *
          generalize hqc : B lc = qc at *
          clear hqa hqc
          have hno1 : ¬ (9223372036854775807 < qa.size + ob.size) := by omega
          have hno2 : ¬ (9223372036854775807 < qc.size + q.size) := by omega
          clear hz2
          go_wp2_with (first
            | (go_at_call 95; refine (cT _).out.mono ?_; clear cT; rintro r u1 ⟨rfl, hg⟩; have HG1 : Hid (Gr w u1) := (HR.out.alloc _).trans hg; have HX1 := Lib.hid ((hg.block (lt_of_row (heap_alloc_last wr (.cells #[.string e0, .string e1, .int .u32 (e2 : Nat), .int .u32 (e3 : Nat)] 59)))).trans (heap_alloc_last wr (.cells #[.string e0, .string e1, .int .u32 (e2 : Nat), .int .u32 (e3 : Nat)] 59))); have y0 := row_cell HX1.out 0 _ rfl; have y1 := row_cell HX1.out 1 _ rfl; have y2 := row_cell HX1.out 2 _ rfl; have y3 := row_cell HX1.out 3 _ rfl; clear hg)
            | (go_at_call 80; refine (cP _).out.mono ?_; clear cP; rintro r u2 ⟨rfl, hg⟩; have HT : Hid (Gr w u2) := HG1.out.trans hg; clear hg))
          have HT2 := Lib.hid HT.out
          clear HR HG1 HX1
          go_roundw
          case rel => exact ⟨k + 1, by omega, by go_num, by rw [HS2.out, HQ2.out], by rw [HS1.out, HQ.out], HT2⟩
          case measure => simp [intOf]; omega
      · obtain rfl : k = xs.length := by omega
        rw [List.take_length] at *
        have hla : (slAt xs.length (xs.map (rcB leaf)) 0).length ≤ 8000 := by rw [slAt_length, List.length_map]; omega
        generalize slCells (xs.map (rcB leaf)) = lc at *
        generalize slAt xs.length (xs.map (rcB leaf)) 0 = la at *
        have HJ : Hid (B la ++ B lc = B (la ++ lc)) := B_app la lc
        have hz1 : (B la).size = la.length := B_size _
        have hz2 : (B lc).size = lc.length := B_size _
        generalize hqa : B la = qa at *
        generalize hqc : B lc = qc at *
        generalize B (la ++ lc) = qq at *
        clear hqa hqc
        have hno : ¬ (9223372036854775807 < qa.size + qc.size) := by omega
        go_wp2
        go_ret2
        exact ⟨(by rw [HJ.out, ← HBO.out]; rfl), HR.out⟩
end Go.Proofs.Ytmpmfgkabjedpaa
