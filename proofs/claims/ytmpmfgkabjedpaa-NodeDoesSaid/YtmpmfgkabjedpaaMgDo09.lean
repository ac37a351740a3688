/- Layer 6: a body of a leaf's cells: walked (printed by sl5_gen.py). -/
import Derived.Test.YtmpmfgkabjedpaaMgDo01
import Derived.Test.YtmpmfgkabjedpaaMgDo03
import Derived.Test.YtmpmfgkabjedpaaMgDo05
import Derived.Test.YtmpmfgkabjedpaaMgDo06
import Derived.Test.YtmpmfgkabjedpaaMgDo08
namespace Go.Proofs.Ytmpmfgkabjedpaa
open Go.RowKit
set_option linter.unusedVariables false
set_option linter.unusedSimpArgs false
set_option maxRecDepth 100000
set_option maxHeartbeats 4000000
theorem lf_body (A : Option Addr) (cap : Nat) (xs : List Ce) (hcap : xs.length ≤ cap) (hcm : cap ≤ maxLen) (hl : xs.length ≤ 4000) (hx : ∀ x ∈ xs, ceOk x) (w : World) (hs : SliceAt w A 4 ceCell xs) :
    Calls Try.prog 51 #[.agg #[.func (.func 68) #[] #[], .func (.func 69) #[] #[], .func (.func 70) #[] #[], .func (.func 71) #[] #[]], .slice A xs.length cap] w fun r w' => r = .returned (.tuple #[.string (slBody (lfErr xs) (xs.map lfB)).1, .int .i64 (slBody (lfErr xs) (xs.map lfB)).2]) ∧ Gr w w' := by
  have HX := Lib.hid (And.intro hs (And.intro hx hcm))
  have cN := fun w1 => Lib.hid (lf_none w1)
  have cR := fun w1 (h1 : Gr w w1) => Lib.hid (lf_right A cap xs hcap hcm hl hx w1 (hs.gr h1))
  have cS := fun w1 (h1 : Gr w w1) => Lib.hid (lf_sum A cap xs hcap hcm hl hx w1 (hs.gr h1))
  clear hs hx hcm
  have hsum : lfSum xs = slLen (xs.map lfB) := by unfold lfSum slLen; rw [List.map_map]; rfl
  have HB : Hid (slBody (lfErr xs) (xs.map lfB) = slBody (lfErr xs) (xs.map lfB)) := rfl
  generalize hbd : slBody (lfErr xs) (xs.map lfB) = bd at *
  generalize lfErr xs = er at *
  rw [hsum] at cS
  clear hsum HB
  have HBD := Lib.hid hbd
  clear hbd
  have hw0 := Lib.hid (heap_alloc_last w (.cells #[.func (.func 68) #[] #[], .func (.func 69) #[] #[], .func (.func 70) #[] #[], .func (.func 71) #[] #[]] 79))
  have HW : Hid (Gr w (w.alloc (.cells #[.func (.func 68) #[] #[], .func (.func 69) #[] #[], .func (.func 70) #[] #[], .func (.func 71) #[] #[]] 79))) := (Gr.refl w).alloc _
  go_enter Try.func51, Try.ntmps51
  by_cases he : er = 0
  case neg =>
    have hne : (er != 0) = true := by simpa using he
    have hb1 : bd = (.empty, er) := by rw [← HBD.out]; unfold slBody; rw [if_pos he]
    subst hb1
    go_wp2_with (first
      | (go_at_call 86; refine (cN _).out.mono ?_; clear cN; rintro r v1 ⟨rfl, hg⟩; have v1g : Hid (Gr w v1) := HW.out.trans hg; have v1r := Lib.hid ((hg.block (lt_of_row hw0.out)).trans hw0.out); clear hg; have v10 := row_cell v1r.out 0 _ rfl; have v11 := row_cell v1r.out 1 _ rfl; have v12 := row_cell v1r.out 2 _ rfl; have v13 := row_cell v1r.out 3 _ rfl)
      | (go_at_call 87; refine (cR _ v1g.out).out.mono ?_; clear cR; rintro r v2 ⟨rfl, hg⟩; have v2g : Hid (Gr w v2) := v1g.out.trans hg; have v2r := Lib.hid ((hg.block (lt_of_row v1r.out)).trans v1r.out); clear hg; have v20 := row_cell v2r.out 0 _ rfl; have v21 := row_cell v2r.out 1 _ rfl; have v22 := row_cell v2r.out 2 _ rfl; have v23 := row_cell v2r.out 3 _ rfl))
    go_ret2
    exact ⟨rfl, v2g.out⟩
  subst he
  by_cases hf : 4072 < slLen (xs.map lfB)
  · have hf2 : (4072 : Int) < ((slLen (xs.map lfB) : Nat) : Int) := by omega
    have hb1 : bd = (.empty, 14) := by rw [← HBD.out]; unfold slBody; rw [if_neg (by simp), if_pos hf]
    subst hb1
    go_wp2_with (first
      | (go_at_call 86; refine (cN _).out.mono ?_; clear cN; rintro r v1 ⟨rfl, hg⟩; have v1g : Hid (Gr w v1) := HW.out.trans hg; have v1r := Lib.hid ((hg.block (lt_of_row hw0.out)).trans hw0.out); clear hg; have v10 := row_cell v1r.out 0 _ rfl; have v11 := row_cell v1r.out 1 _ rfl; have v12 := row_cell v1r.out 2 _ rfl; have v13 := row_cell v1r.out 3 _ rfl)
      | (go_at_call 87; refine (cR _ v1g.out).out.mono ?_; clear cR; rintro r v2 ⟨rfl, hg⟩; have v2g : Hid (Gr w v2) := v1g.out.trans hg; have v2r := Lib.hid ((hg.block (lt_of_row v1r.out)).trans v1r.out); clear hg; have v20 := row_cell v2r.out 0 _ rfl; have v21 := row_cell v2r.out 1 _ rfl; have v22 := row_cell v2r.out 2 _ rfl; have v23 := row_cell v2r.out 3 _ rfl)
      | (go_at_call 58; refine (cS _ v2g.out).out.mono ?_; clear cS; rintro r v3 ⟨rfl, hg⟩; have v3g : Hid (Gr w v3) := v2g.out.trans hg; have v3r := Lib.hid ((hg.block (lt_of_row v2r.out)).trans v2r.out); clear hg; have v30 := row_cell v3r.out 0 _ rfl; have v31 := row_cell v3r.out 1 _ rfl; have v32 := row_cell v3r.out 2 _ rfl; have v33 := row_cell v3r.out 3 _ rfl))
    go_ret2
    exact ⟨rfl, v3g.out⟩
  · have hf2 : ¬ (4072 : Int) < ((slLen (xs.map lfB) : Nat) : Int) := by omega
    have hb1 : bd = (⟨(slAt xs.length (xs.map lfB) 0 ++ slCells (xs.map lfB)).toArray⟩, 0) := by rw [← HBD.out]; unfold slBody; rw [if_neg (by simp), if_neg hf, List.length_map]
    obtain ⟨bd1, bd2⟩ := bd
    obtain ⟨hb2, rfl⟩ : bd1 = _ ∧ bd2 = 0 := by injection hb1 with h1 h2; exact ⟨h1, h2⟩
    have HBO := Lib.hid hb2
    clear HBD hb1 hb2
    have hcl : (slCells (xs.map lfB)).length ≤ 4072 := by have := slCells_len (xs.map lfB); omega
    clear hf
    go_wp2_with (first
      | (go_at_call 86; refine (cN _).out.mono ?_; clear cN; rintro r v1 ⟨rfl, hg⟩; have v1g : Hid (Gr w v1) := HW.out.trans hg; have v1r := Lib.hid ((hg.block (lt_of_row hw0.out)).trans hw0.out); clear hg; have v10 := row_cell v1r.out 0 _ rfl; have v11 := row_cell v1r.out 1 _ rfl; have v12 := row_cell v1r.out 2 _ rfl; have v13 := row_cell v1r.out 3 _ rfl)
      | (go_at_call 87; refine (cR _ v1g.out).out.mono ?_; clear cR; rintro r v2 ⟨rfl, hg⟩; have v2g : Hid (Gr w v2) := v1g.out.trans hg; have v2r := Lib.hid ((hg.block (lt_of_row v1r.out)).trans v1r.out); clear hg; have v20 := row_cell v2r.out 0 _ rfl; have v21 := row_cell v2r.out 1 _ rfl; have v22 := row_cell v2r.out 2 _ rfl; have v23 := row_cell v2r.out 3 _ rfl)
      | (go_at_call 58; refine (cS _ v2g.out).out.mono ?_; clear cS; rintro r v3 ⟨rfl, hg⟩; have v3g : Hid (Gr w v3) := v2g.out.trans hg; have v3r := Lib.hid ((hg.block (lt_of_row v2r.out)).trans v2r.out); clear hg; have v30 := row_cell v3r.out 0 _ rfl; have v31 := row_cell v3r.out 1 _ rfl; have v32 := row_cell v3r.out 2 _ rfl; have v33 := row_cell v3r.out 3 _ rfl))
    have HV : Hid (Pr w ((v3.alloc (.cells #[.pointer none, .slice none 0 0] 135)).alloc (.cells #[.pointer none, .slice none 0 0] 135)) w.heap.size v3.heap.size (v3.heap.size + 1) (.cells #[.func (.func 68) #[] #[], .func (.func 69) #[] #[], .func (.func 70) #[] #[], .func (.func 71) #[] #[]] 79 (0, 0)) none none [] []) := Pr.new w v3 w.heap.size _ v3g.out v3r.out (Nat.le_refl _)
    clear HW hw0 v1g v1r v2g v2r v3g v3r hf2
    generalize (v3.alloc (.cells #[.pointer none, .slice none 0 0] 135)).alloc (.cells #[.pointer none, .slice none 0 0] 135) = W at *
    generalize v3.heap.size = b at *
    generalize w.heap.size = g at *
    go_loopw [25] (fun i wr => ∃ k : Nat, k ≤ xs.length ∧ i = .int .i64 (k : Nat) ∧ Hid (∃ G1 G2, Pr w wr g b (b + 1) (.cells #[.func (.func 68) #[] #[], .func (.func 69) #[] #[], .func (.func 70) #[] #[], .func (.func 71) #[] #[]] 79 (0, 0)) G1 G2 (slAt xs.length ((xs.take k).map lfB) 0) (slCells ((xs.take k).map lfB)))) (fun i _ => xs.length - (intOf i).toNat)
    case atStart => exact ⟨0, by omega, rfl, none, none, HV.out⟩
    case round =>
      obtain ⟨k, hk, rfl, HR⟩ := hrel
      obtain ⟨G1, G2, hP⟩ := HR.out
      have HP := Lib.hid hP
      clear hP HR HV
      by_cases hlt : k < xs.length
      · rcases HX.out.1 with h0 | ⟨a, off, rfl, hcell⟩
        · subst h0; simp at hlt
        · have hget := List.getElem?_eq_getElem hlt
          have hxo := HX.out.2.1 xs[k] (List.getElem_mem hlt)
          have HS1 : Hid (slCells ((xs.take (k + 1)).map lfB) = slCells ((xs.take k).map lfB) ++ (lfB xs[k]).data.toList) := by
            unfold Hid; rw [List.take_succ_eq_append_getElem hlt, List.map_append]; exact slCells_snoc _ _
          have HS2 : Hid (slAt xs.length ((xs.take (k + 1)).map lfB) 0 = slAt xs.length ((xs.take k).map lfB) 0 ++ Oct.be (2 * xs.length + (slCells ((xs.take k).map lfB)).length) 2) := by
            unfold Hid; rw [List.take_succ_eq_append_getElem hlt, List.map_append]; simpa using slAt_snoc xs.length (lfB xs[k]) ((xs.take k).map lfB) 0
          have hlc : (slCells ((xs.take k).map lfB)).length ≤ 4072 := by rw [List.map_take]; exact Nat.le_trans (slCells_take _ k) hcl
          have hla : (slAt xs.length ((xs.take k).map lfB) 0).length ≤ 8000 := by rw [slAt_length, List.length_map, List.length_take]; omega
          generalize slCells ((xs.take k).map lfB) = lc at *
          generalize slAt xs.length ((xs.take k).map lfB) 0 = la at *
          generalize xs[k] = x at *
          obtain ⟨e0, e1, e2, e3⟩ := x
          have a0 := HP.out.gr.cells (hcell k _ hget 0 _ rfl)
          have a1 := HP.out.gr.cells (hcell k _ hget 1 _ rfl)
          have a2 := HP.out.gr.cells (hcell k _ hget 2 _ rfl)
          have a3 := HP.out.gr.cells (hcell k _ hget 3 _ rfl)
          simp only [Nat.add_zero] at a0
          have HC := Lib.hid (And.intro hcell hget)
          clear hcell hget
          simp only [lfB] at HS1
          have hz := lfBytes_size e0 e1 e2 e3 hxo.2.1
          have cP := fun w1 => Lib.hid (sl_putCell e0 e1 e2 e3 hxo.1 hxo.2.1 hxo.2.2.1 hxo.2.2.2 w1)
          clear hxo
          generalize ceBytes (e0, e1, e2, e3) = q at *
          have hob : 2 * xs.length + lc.length < 65536 := by omega
          have cT := fun w1 => Lib.hid (oct_two (2 * xs.length + lc.length) hob w1)
          have hz2 := B_be_size (2 * xs.length + lc.length) 2
          have hw1 : IntKind.u16.wrap ((2 * (xs.length : Int) + (lc.length : Int))) = ((2 * xs.length + lc.length : Nat) : Int) := by rw [IntKind.wrap_u16]; omega
          have hw2 : IntKind.i64.wrap (2 * (xs.length : Int)) = 2 * (xs.length : Int) := by rw [IntKind.wrap_i64]; omega
          have hw3 : IntKind.i64.wrap (2 * (xs.length : Int) + (lc.length : Int)) = 2 * (xs.length : Int) + (lc.length : Int) := by rw [IntKind.wrap_i64]; omega
          have HP0 : Hid (Pr w (wr.alloc (.cells #[.string e0, .string e1, .int .u32 (e2 : Nat), .int .u32 (e3 : Nat)] 59)) g b (b + 1) (.cells #[.func (.func 68) #[] #[], .func (.func 69) #[] #[], .func (.func 70) #[] #[], .func (.func 71) #[] #[]] 79 (0, 0)) G1 G2 la lc) := HP.out.gr' ((Gr.refl wr).alloc _)
          have HX0 : Hid ((wr.alloc (.cells #[.string e0, .string e1, .int .u32 (e2 : Nat), .int .u32 (e3 : Nat)] 59)).heap[wr.heap.size]? = some (.cells #[.string e0, .string e1, .int .u32 (e2 : Nat), .int .u32 (e3 : Nat)] 59 (0, 0)) ∧ b < wr.heap.size ∧ b + 1 < wr.heap.size ∧ (∀ x, G1 = some x → x < wr.heap.size) ∧ (∀ x, G2 = some x → x < wr.heap.size)) := ⟨heap_alloc_last wr _, HP.out.d1.blk.1, HP.out.d2.blk.1, fun x hx => (HP.out.d1.blk.2 x hx).2, fun x hx => (HP.out.d2.blk.2 x hx).2⟩
          go_wp2_with (first
            | (go_at_call 90; refine (bd_len (b + 1) G2 lc _ HP0.out.d2).mono ?_; rintro r u0 ⟨rfl, rfl⟩)
            | (go_at_call 89; refine (cT _).out.mono ?_; clear cT; rintro r u1 ⟨rfl, hg⟩; have HP1 := Lib.hid (HP0.out.gr' hg); have HX1 := Lib.hid ((hg.block (lt_of_row HX0.out.1)).trans HX0.out.1); clear hg)
            | ((with_reducible show Calls _ _ #[.pointer (some ⟨b, 0, none⟩), _] _ _); go_at_call 88; refine (bd_put b G1 la (B (Oct.be (2 * xs.length + lc.length) 2)) _ HP1.out.d1 (by omega)).mono ?_; rintro r u2 ⟨G1x, rfl, hB, hK, hG⟩; have HP2 := Lib.hid (HP1.out.put1 hB hK hG); have HX2 := Lib.hid (HP1.out.xrow1 hK HX1.out (by have := HX0.out.2.1; omega) HX0.out.2.2.2.1); clear hB hK hG; have s0 := row_cell HP2.out.row 0 _ rfl; have s1 := row_cell HP2.out.row 1 _ rfl; have s2 := row_cell HP2.out.row 2 _ rfl; have s3 := row_cell HP2.out.row 3 _ rfl; have y0 := row_cell HX2.out 0 _ rfl; have y1 := row_cell HX2.out 1 _ rfl; have y2 := row_cell HX2.out 2 _ rfl; have y3 := row_cell HX2.out 3 _ rfl)
            | (go_at_call 68; refine (cP _).out.mono ?_; clear cP; rintro r u3 ⟨rfl, hg⟩; have HP3 := Lib.hid (HP2.out.gr' hg); clear hg)
            | ((with_reducible show Calls _ _ #[.pointer (some ⟨b + 1, 0, none⟩), _] _ _); go_at_call 88; refine (bd_put (b + 1) G2 lc q _ HP3.out.d2 (by omega)).mono ?_; rintro r u4 ⟨G2x, rfl, hB, hK, hG⟩; have HP4 := Lib.hid (HP3.out.put2 hB hK hG); clear hB hK hG))
          have HT : Hid (∃ G1 G2, Pr w u4 g b (b + 1) (.cells #[.func (.func 68) #[] #[], .func (.func 69) #[] #[], .func (.func 70) #[] #[], .func (.func 71) #[] #[]] 79 (0, 0)) G1 G2 (slAt xs.length ((xs.take (k + 1)).map lfB) 0) (slCells ((xs.take (k + 1)).map lfB))) := by
            refine ⟨G1x, G2x, ?_⟩
            rw [HS1.out, HS2.out]
            have h := HP4.out
            rw [B_list] at h
            exact h
          clear HP HP0 HP1 HP2 HP3 HP4 HX0 HX1 HX2 HS1 HS2
          go_roundw
          case rel => exact ⟨k + 1, by omega, by go_num, HT⟩
          case measure => simp [intOf]; omega
      · obtain rfl : k = xs.length := by omega
        rw [List.take_length] at HP
        have hla : (slAt xs.length (xs.map lfB) 0).length ≤ 8000 := by rw [slAt_length, List.length_map]; omega
        generalize slCells (xs.map lfB) = lc at *
        generalize slAt xs.length (xs.map lfB) 0 = la at *
        have HJ : Hid ((⟨la.toArray⟩ : ByteArray) ++ ⟨lc.toArray⟩ = ⟨(la ++ lc).toArray⟩) := str_app la lc
        have hz1 : ((⟨la.toArray⟩ : ByteArray)).size = la.length := rfl
        have hz2 : ((⟨lc.toArray⟩ : ByteArray)).size = lc.length := rfl
        have c1 := fun (w1 : World) (h : Bd w1 b G1 la) => Lib.hid (bd_str b G1 la w1 h (by omega))
        have c2 := fun (w1 : World) (h : Bd w1 (b + 1) G2 lc) => Lib.hid (bd_str (b + 1) G2 lc w1 h (by omega))
        generalize hqa : (⟨la.toArray⟩ : ByteArray) = qa at *
        generalize hqc : (⟨lc.toArray⟩ : ByteArray) = qc at *
        generalize (⟨(la ++ lc).toArray⟩ : ByteArray) = qq at *
        clear hqa hqc
        have hno : ¬ (9223372036854775807 < qa.size + qc.size) := by omega
        go_wp2_with (first
          | ((with_reducible show Calls _ _ #[.pointer (some ⟨b, 0, none⟩)] _ _); go_at_call 91; refine (c1 _ HP.out.d1).out.mono ?_; clear c1; rintro r u1 ⟨rfl, hK⟩; have HT := Lib.hid (HP.out.told1 hK); have HL := Lib.hid HP.out.lo; clear hK)
          | ((with_reducible show Calls _ _ #[.pointer (some ⟨b + 1, 0, none⟩)] _ _); go_at_call 91; refine (c2 _ HT.out.2).out.mono ?_; clear c2; rintro r u2 ⟨rfl, hK⟩; have HU := Lib.hid hK; clear hK))
        go_ret2
        refine ⟨(by rw [HJ.out, ← HBO.out]; rfl), HU.out.gr HT.out.1 (by have := HL.out; omega) (fun x hx => by have := HT.out.2.blk.2 x hx; have := HL.out; omega)⟩
end Go.Proofs.Ytmpmfgkabjedpaa
namespace Go.Proofs.Ytmpmfgkabjedpaa
open Go.RowKit
set_option linter.unusedVariables false
set_option linter.unusedSimpArgs false
set_option maxRecDepth 100000
set_option maxHeartbeats 4000000
theorem ki_body (A : Option Addr) (cap : Nat) (xs : List Ki) (hcap : xs.length ≤ cap) (hcm : cap ≤ maxLen) (hl : xs.length ≤ 4000) (hx : ∀ x ∈ xs, kiOk x) (w : World) (hs : SliceAt w A 2 kiCell xs) :
    Calls Try.prog 52 #[.agg #[.func (.func 73) #[] #[], .func (.func 76) #[] #[], .func (.func 79) #[] #[], .nilFunc], .slice A xs.length cap] w fun r w' => r = .returned (.tuple #[.string (slBody (kiErr xs) (xs.map kiB)).1, .int .i64 (slBody (kiErr xs) (xs.map kiB)).2]) ∧ Gr w w' := by
  have HX := Lib.hid (And.intro hs (And.intro hx hcm))
  have cN := fun w1 => Lib.hid (ki_none w1)
  have cR := fun w1 (h1 : Gr w w1) => Lib.hid (ki_right A cap xs hcap hcm hl hx w1 (hs.gr h1))
  have cS := fun w1 (h1 : Gr w w1) => Lib.hid (ki_sum A cap xs hcap hcm hl hx w1 (hs.gr h1))
  clear hs hx hcm
  have hsum : kiSum xs = slLen (xs.map kiB) := by unfold kiSum slLen; rw [List.map_map]; rfl
  have HB : Hid (slBody (kiErr xs) (xs.map kiB) = slBody (kiErr xs) (xs.map kiB)) := rfl
  generalize hbd : slBody (kiErr xs) (xs.map kiB) = bd at *
  generalize kiErr xs = er at *
  rw [hsum] at cS
  clear hsum HB
  have HBD := Lib.hid hbd
  clear hbd
  have hw0 := Lib.hid (heap_alloc_last w (.cells #[.func (.func 73) #[] #[], .func (.func 76) #[] #[], .func (.func 79) #[] #[], .nilFunc] 87))
  have HW : Hid (Gr w (w.alloc (.cells #[.func (.func 73) #[] #[], .func (.func 76) #[] #[], .func (.func 79) #[] #[], .nilFunc] 87))) := (Gr.refl w).alloc _
  go_enter Try.func52, Try.ntmps52
  by_cases he : er = 0
  case neg =>
    have hne : (er != 0) = true := by simpa using he
    have hb1 : bd = (.empty, er) := by rw [← HBD.out]; unfold slBody; rw [if_pos he]
    subst hb1
    go_wp2_with (first
      | (go_at_call 92; refine (cN _).out.mono ?_; clear cN; rintro r v1 ⟨rfl, hg⟩; have v1g : Hid (Gr w v1) := HW.out.trans hg; have v1r := Lib.hid ((hg.block (lt_of_row hw0.out)).trans hw0.out); clear hg; have v10 := row_cell v1r.out 0 _ rfl; have v11 := row_cell v1r.out 1 _ rfl; have v12 := row_cell v1r.out 2 _ rfl; have v13 := row_cell v1r.out 3 _ rfl)
      | (go_at_call 93; refine (cR _ v1g.out).out.mono ?_; clear cR; rintro r v2 ⟨rfl, hg⟩; have v2g : Hid (Gr w v2) := v1g.out.trans hg; have v2r := Lib.hid ((hg.block (lt_of_row v1r.out)).trans v1r.out); clear hg; have v20 := row_cell v2r.out 0 _ rfl; have v21 := row_cell v2r.out 1 _ rfl; have v22 := row_cell v2r.out 2 _ rfl; have v23 := row_cell v2r.out 3 _ rfl))
    go_ret2
    exact ⟨rfl, v2g.out⟩
  subst he
  by_cases hf : 4072 < slLen (xs.map kiB)
  · have hf2 : (4072 : Int) < ((slLen (xs.map kiB) : Nat) : Int) := by omega
    have hb1 : bd = (.empty, 14) := by rw [← HBD.out]; unfold slBody; rw [if_neg (by simp), if_pos hf]
    subst hb1
    go_wp2_with (first
      | (go_at_call 92; refine (cN _).out.mono ?_; clear cN; rintro r v1 ⟨rfl, hg⟩; have v1g : Hid (Gr w v1) := HW.out.trans hg; have v1r := Lib.hid ((hg.block (lt_of_row hw0.out)).trans hw0.out); clear hg; have v10 := row_cell v1r.out 0 _ rfl; have v11 := row_cell v1r.out 1 _ rfl; have v12 := row_cell v1r.out 2 _ rfl; have v13 := row_cell v1r.out 3 _ rfl)
      | (go_at_call 93; refine (cR _ v1g.out).out.mono ?_; clear cR; rintro r v2 ⟨rfl, hg⟩; have v2g : Hid (Gr w v2) := v1g.out.trans hg; have v2r := Lib.hid ((hg.block (lt_of_row v1r.out)).trans v1r.out); clear hg; have v20 := row_cell v2r.out 0 _ rfl; have v21 := row_cell v2r.out 1 _ rfl; have v22 := row_cell v2r.out 2 _ rfl; have v23 := row_cell v2r.out 3 _ rfl)
      | (go_at_call 59; refine (cS _ v2g.out).out.mono ?_; clear cS; rintro r v3 ⟨rfl, hg⟩; have v3g : Hid (Gr w v3) := v2g.out.trans hg; have v3r := Lib.hid ((hg.block (lt_of_row v2r.out)).trans v2r.out); clear hg; have v30 := row_cell v3r.out 0 _ rfl; have v31 := row_cell v3r.out 1 _ rfl; have v32 := row_cell v3r.out 2 _ rfl; have v33 := row_cell v3r.out 3 _ rfl))
    go_ret2
    exact ⟨rfl, v3g.out⟩
  · have hf2 : ¬ (4072 : Int) < ((slLen (xs.map kiB) : Nat) : Int) := by omega
    have hb1 : bd = (⟨(slAt xs.length (xs.map kiB) 0 ++ slCells (xs.map kiB)).toArray⟩, 0) := by rw [← HBD.out]; unfold slBody; rw [if_neg (by simp), if_neg hf, List.length_map]
    obtain ⟨bd1, bd2⟩ := bd
    obtain ⟨hb2, rfl⟩ : bd1 = _ ∧ bd2 = 0 := by injection hb1 with h1 h2; exact ⟨h1, h2⟩
    have HBO := Lib.hid hb2
    clear HBD hb1 hb2
    have hcl : (slCells (xs.map kiB)).length ≤ 4072 := by have := slCells_len (xs.map kiB); omega
    clear hf
    go_wp2_with (first
      | (go_at_call 92; refine (cN _).out.mono ?_; clear cN; rintro r v1 ⟨rfl, hg⟩; have v1g : Hid (Gr w v1) := HW.out.trans hg; have v1r := Lib.hid ((hg.block (lt_of_row hw0.out)).trans hw0.out); clear hg; have v10 := row_cell v1r.out 0 _ rfl; have v11 := row_cell v1r.out 1 _ rfl; have v12 := row_cell v1r.out 2 _ rfl; have v13 := row_cell v1r.out 3 _ rfl)
      | (go_at_call 93; refine (cR _ v1g.out).out.mono ?_; clear cR; rintro r v2 ⟨rfl, hg⟩; have v2g : Hid (Gr w v2) := v1g.out.trans hg; have v2r := Lib.hid ((hg.block (lt_of_row v1r.out)).trans v1r.out); clear hg; have v20 := row_cell v2r.out 0 _ rfl; have v21 := row_cell v2r.out 1 _ rfl; have v22 := row_cell v2r.out 2 _ rfl; have v23 := row_cell v2r.out 3 _ rfl)
      | (go_at_call 59; refine (cS _ v2g.out).out.mono ?_; clear cS; rintro r v3 ⟨rfl, hg⟩; have v3g : Hid (Gr w v3) := v2g.out.trans hg; have v3r := Lib.hid ((hg.block (lt_of_row v2r.out)).trans v2r.out); clear hg; have v30 := row_cell v3r.out 0 _ rfl; have v31 := row_cell v3r.out 1 _ rfl; have v32 := row_cell v3r.out 2 _ rfl; have v33 := row_cell v3r.out 3 _ rfl))
    have HV : Hid (Pr w ((v3.alloc (.cells #[.pointer none, .slice none 0 0] 135)).alloc (.cells #[.pointer none, .slice none 0 0] 135)) w.heap.size v3.heap.size (v3.heap.size + 1) (.cells #[.func (.func 73) #[] #[], .func (.func 76) #[] #[], .func (.func 79) #[] #[], .nilFunc] 87 (0, 0)) none none [] []) := Pr.new w v3 w.heap.size _ v3g.out v3r.out (Nat.le_refl _)
    clear HW hw0 v1g v1r v2g v2r v3g v3r hf2
    generalize (v3.alloc (.cells #[.pointer none, .slice none 0 0] 135)).alloc (.cells #[.pointer none, .slice none 0 0] 135) = W at *
    generalize v3.heap.size = b at *
    generalize w.heap.size = g at *
    go_loopw [25] (fun i wr => ∃ k : Nat, k ≤ xs.length ∧ i = .int .i64 (k : Nat) ∧ Hid (∃ G1 G2, Pr w wr g b (b + 1) (.cells #[.func (.func 73) #[] #[], .func (.func 76) #[] #[], .func (.func 79) #[] #[], .nilFunc] 87 (0, 0)) G1 G2 (slAt xs.length ((xs.take k).map kiB) 0) (slCells ((xs.take k).map kiB)))) (fun i _ => xs.length - (intOf i).toNat)
    case atStart => exact ⟨0, by omega, rfl, none, none, HV.out⟩
    case round =>
      obtain ⟨k, hk, rfl, HR⟩ := hrel
      obtain ⟨G1, G2, hP⟩ := HR.out
      have HP := Lib.hid hP
      clear hP HR HV
      by_cases hlt : k < xs.length
      · rcases HX.out.1 with h0 | ⟨a, off, rfl, hcell⟩
        · subst h0; simp at hlt
        · have hget := List.getElem?_eq_getElem hlt
          have hxo := HX.out.2.1 xs[k] (List.getElem_mem hlt)
          have HS1 : Hid (slCells ((xs.take (k + 1)).map kiB) = slCells ((xs.take k).map kiB) ++ (kiB xs[k]).data.toList) := by
            unfold Hid; rw [List.take_succ_eq_append_getElem hlt, List.map_append]; exact slCells_snoc _ _
          have HS2 : Hid (slAt xs.length ((xs.take (k + 1)).map kiB) 0 = slAt xs.length ((xs.take k).map kiB) 0 ++ Oct.be (2 * xs.length + (slCells ((xs.take k).map kiB)).length) 2) := by
            unfold Hid; rw [List.take_succ_eq_append_getElem hlt, List.map_append]; simpa using slAt_snoc xs.length (kiB xs[k]) ((xs.take k).map kiB) 0
          have hlc : (slCells ((xs.take k).map kiB)).length ≤ 4072 := by rw [List.map_take]; exact Nat.le_trans (slCells_take _ k) hcl
          have hla : (slAt xs.length ((xs.take k).map kiB) 0).length ≤ 8000 := by rw [slAt_length, List.length_map, List.length_take]; omega
          generalize slCells ((xs.take k).map kiB) = lc at *
          generalize slAt xs.length ((xs.take k).map kiB) 0 = la at *
          generalize xs[k] = x at *
          obtain ⟨e0, e1⟩ := x
          have a0 := HP.out.gr.cells (hcell k _ hget 0 _ rfl)
          have a1 := HP.out.gr.cells (hcell k _ hget 1 _ rfl)
          simp only [Nat.add_zero] at a0
          have HC := Lib.hid (And.intro hcell hget)
          clear hcell hget
          simp only [kiB] at HS1
          have hz := kiBytes_size e0 e1
          have cP := fun w1 => Lib.hid (sl_putKid e0 e1 hxo.1 hxo.2 w1)
          clear hxo
          generalize kiBytes e0 e1 = q at *
          have hob : 2 * xs.length + lc.length < 65536 := by omega
          have cT := fun w1 => Lib.hid (oct_two (2 * xs.length + lc.length) hob w1)
          have hz2 := B_be_size (2 * xs.length + lc.length) 2
          have hw1 : IntKind.u16.wrap ((2 * (xs.length : Int) + (lc.length : Int))) = ((2 * xs.length + lc.length : Nat) : Int) := by rw [IntKind.wrap_u16]; omega
          have hw2 : IntKind.i64.wrap (2 * (xs.length : Int)) = 2 * (xs.length : Int) := by rw [IntKind.wrap_i64]; omega
          have hw3 : IntKind.i64.wrap (2 * (xs.length : Int) + (lc.length : Int)) = 2 * (xs.length : Int) + (lc.length : Int) := by rw [IntKind.wrap_i64]; omega
          have HP0 : Hid (Pr w (wr.alloc (.cells #[.string e0, .int .u32 (e1 : Nat)] 61)) g b (b + 1) (.cells #[.func (.func 73) #[] #[], .func (.func 76) #[] #[], .func (.func 79) #[] #[], .nilFunc] 87 (0, 0)) G1 G2 la lc) := HP.out.gr' ((Gr.refl wr).alloc _)
          have HX0 : Hid ((wr.alloc (.cells #[.string e0, .int .u32 (e1 : Nat)] 61)).heap[wr.heap.size]? = some (.cells #[.string e0, .int .u32 (e1 : Nat)] 61 (0, 0)) ∧ b < wr.heap.size ∧ b + 1 < wr.heap.size ∧ (∀ x, G1 = some x → x < wr.heap.size) ∧ (∀ x, G2 = some x → x < wr.heap.size)) := ⟨heap_alloc_last wr _, HP.out.d1.blk.1, HP.out.d2.blk.1, fun x hx => (HP.out.d1.blk.2 x hx).2, fun x hx => (HP.out.d2.blk.2 x hx).2⟩
          go_wp2_with (first
            | (go_at_call 90; refine (bd_len (b + 1) G2 lc _ HP0.out.d2).mono ?_; rintro r u0 ⟨rfl, rfl⟩)
            | (go_at_call 89; refine (cT _).out.mono ?_; clear cT; rintro r u1 ⟨rfl, hg⟩; have HP1 := Lib.hid (HP0.out.gr' hg); have HX1 := Lib.hid ((hg.block (lt_of_row HX0.out.1)).trans HX0.out.1); clear hg)
            | ((with_reducible show Calls _ _ #[.pointer (some ⟨b, 0, none⟩), _] _ _); go_at_call 88; refine (bd_put b G1 la (B (Oct.be (2 * xs.length + lc.length) 2)) _ HP1.out.d1 (by omega)).mono ?_; rintro r u2 ⟨G1x, rfl, hB, hK, hG⟩; have HP2 := Lib.hid (HP1.out.put1 hB hK hG); have HX2 := Lib.hid (HP1.out.xrow1 hK HX1.out (by have := HX0.out.2.1; omega) HX0.out.2.2.2.1); clear hB hK hG; have s0 := row_cell HP2.out.row 0 _ rfl; have s1 := row_cell HP2.out.row 1 _ rfl; have s2 := row_cell HP2.out.row 2 _ rfl; have s3 := row_cell HP2.out.row 3 _ rfl; have y0 := row_cell HX2.out 0 _ rfl; have y1 := row_cell HX2.out 1 _ rfl)
            | (go_at_call 73; refine (cP _).out.mono ?_; clear cP; rintro r u3 ⟨rfl, hg⟩; have HP3 := Lib.hid (HP2.out.gr' hg); clear hg)
            | ((with_reducible show Calls _ _ #[.pointer (some ⟨b + 1, 0, none⟩), _] _ _); go_at_call 88; refine (bd_put (b + 1) G2 lc q _ HP3.out.d2 (by omega)).mono ?_; rintro r u4 ⟨G2x, rfl, hB, hK, hG⟩; have HP4 := Lib.hid (HP3.out.put2 hB hK hG); clear hB hK hG))
          have HT : Hid (∃ G1 G2, Pr w u4 g b (b + 1) (.cells #[.func (.func 73) #[] #[], .func (.func 76) #[] #[], .func (.func 79) #[] #[], .nilFunc] 87 (0, 0)) G1 G2 (slAt xs.length ((xs.take (k + 1)).map kiB) 0) (slCells ((xs.take (k + 1)).map kiB))) := by
            refine ⟨G1x, G2x, ?_⟩
            rw [HS1.out, HS2.out]
            have h := HP4.out
            rw [B_list] at h
            exact h
          clear HP HP0 HP1 HP2 HP3 HP4 HX0 HX1 HX2 HS1 HS2
          go_roundw
          case rel => exact ⟨k + 1, by omega, by go_num, HT⟩
          case measure => simp [intOf]; omega
      · obtain rfl : k = xs.length := by omega
        rw [List.take_length] at HP
        have hla : (slAt xs.length (xs.map kiB) 0).length ≤ 8000 := by rw [slAt_length, List.length_map]; omega
        generalize slCells (xs.map kiB) = lc at *
        generalize slAt xs.length (xs.map kiB) 0 = la at *
        have HJ : Hid ((⟨la.toArray⟩ : ByteArray) ++ ⟨lc.toArray⟩ = ⟨(la ++ lc).toArray⟩) := str_app la lc
        have hz1 : ((⟨la.toArray⟩ : ByteArray)).size = la.length := rfl
        have hz2 : ((⟨lc.toArray⟩ : ByteArray)).size = lc.length := rfl
        have c1 := fun (w1 : World) (h : Bd w1 b G1 la) => Lib.hid (bd_str b G1 la w1 h (by omega))
        have c2 := fun (w1 : World) (h : Bd w1 (b + 1) G2 lc) => Lib.hid (bd_str (b + 1) G2 lc w1 h (by omega))
        generalize hqa : (⟨la.toArray⟩ : ByteArray) = qa at *
        generalize hqc : (⟨lc.toArray⟩ : ByteArray) = qc at *
        generalize (⟨(la ++ lc).toArray⟩ : ByteArray) = qq at *
        clear hqa hqc
        have hno : ¬ (9223372036854775807 < qa.size + qc.size) := by omega
        go_wp2_with (first
          | ((with_reducible show Calls _ _ #[.pointer (some ⟨b, 0, none⟩)] _ _); go_at_call 91; refine (c1 _ HP.out.d1).out.mono ?_; clear c1; rintro r u1 ⟨rfl, hK⟩; have HT := Lib.hid (HP.out.told1 hK); have HL := Lib.hid HP.out.lo; clear hK)
          | ((with_reducible show Calls _ _ #[.pointer (some ⟨b + 1, 0, none⟩)] _ _); go_at_call 91; refine (c2 _ HT.out.2).out.mono ?_; clear c2; rintro r u2 ⟨rfl, hK⟩; have HU := Lib.hid hK; clear hK))
        go_ret2
        refine ⟨(by rw [HJ.out, ← HBO.out]; rfl), HU.out.gr HT.out.1 (by have := HL.out; omega) (fun x hx => by have := HT.out.2.blk.2 x hx; have := HL.out; omega)⟩
end Go.Proofs.Ytmpmfgkabjedpaa
namespace Go.Proofs.Ytmpmfgkabjedpaa
open Go.RowKit
set_option linter.unusedVariables false
set_option linter.unusedSimpArgs false
theorem Own.mono {α : Type} {w : World} {base b2 e k : Nat} {enc : α → List Value} {A : Option Addr} {cap : Nat} {xs : List α} (h : Own w base e k enc A cap xs) (hb : b2 ≤ base) : Own w b2 e k enc A cap xs := by
  refine ⟨h.1, ?_⟩
  rcases h.2 with h2 | ⟨g, c, cur, hv, hg, hx⟩
  · exact .inl h2
  · exact .inr ⟨g, c, cur, hv, Nat.le_trans hb hg, hx⟩
theorem Own.grown {α : Type} {w0 w w' : World} {base e k : Nat} {enc : α → List Value} {A : Option Addr} {cap n : Nat} {xs : List α} (h : Own w base e k enc A cap xs) (hg : w.grownBy w' (Value.slice A n cap).ownBlock) (h0 : Gr w0 w) (hb : w0.heap.size ≤ base) : Gr w0 w' := by
  rw [ownOf_eq] at hg
  refine ⟨hg.os.trans (Below.os h0), hg.tape.trans (Below.tape h0), hg.output.trans (Below.output h0), Nat.le_trans (Below.size h0) hg.size, fun j hj => ?_⟩
  rw [hg.block j (Nat.lt_of_lt_of_le hj (Below.size h0)) (fun he => by have := (h.lt he.symm).2; omega)]
  exact Below.block h0 j hj
theorem RdAt.of_block {w w' : World} {b : Nat} {s : ByteArray} {e : Int} (h : RdAt w b s e) (hb : w'.heap[b]? = w.heap[b]?) : RdAt w' b s e :=
  ⟨(World.cell?_of_block (a := ⟨b, 0, none⟩) hb).trans h.s, (World.cell?_of_block (a := ⟨b, 1, none⟩) hb).trans h.e, (World.frozen?_of_block (a := ⟨b, 0, none⟩) hb).trans h.sf, (World.frozen?_of_block (a := ⟨b, 1, none⟩) hb).trans h.ef⟩
end Go.Proofs.Ytmpmfgkabjedpaa
namespace Go.Proofs.Ytmpmfgkabjedpaa
open Go.RowKit
set_option linter.unusedVariables false
set_option linter.unusedSimpArgs false
set_option maxRecDepth 100000
set_option maxHeartbeats 4000000
theorem sl_leaves (w : World) : Calls Try.prog 37 #[] w fun r w' => r = .returned (.agg #[.func (.func 68) #[] #[], .func (.func 69) #[] #[], .func (.func 70) #[] #[], .func (.func 71) #[] #[]]) ∧ Gr w w' := by
  go_enter Try.func37, Try.ntmps37
  go_wp2
  refine bodyPost_ret (results_cell_row rfl _ _ w.heap.size _ #[.func (.func 68) #[] #[], .func (.func 69) #[] #[], .func (.func 70) #[] #[], .func (.func 71) #[] #[]] (0, 0) (.struct _) rfl (heap_alloc_last _ _) Try.underlying79 rfl (by kernel_rfl)) rfl ⟨rfl, (Gr.refl w).alloc _⟩
theorem sl_kids (w : World) : Calls Try.prog 40 #[] w fun r w' => r = .returned (.agg #[.func (.func 73) #[] #[], .func (.func 76) #[] #[], .func (.func 79) #[] #[], .nilFunc]) ∧ Gr w w' := by
  go_enter Try.func40, Try.ntmps40
  go_wp2
  refine bodyPost_ret (results_cell_row rfl _ _ w.heap.size _ #[.func (.func 73) #[] #[], .func (.func 76) #[] #[], .func (.func 79) #[] #[], .nilFunc] (0, 0) (.struct _) rfl (heap_alloc_last _ _) Try.underlying87 rfl (by kernel_rfl)) rfl ⟨rfl, (Gr.refl w).alloc _⟩
def ceFew (x : Ce) : Prop := x.1.size ≤ 300 ∧ x.2.1.size ≤ 500
def ceU (x : Ce) : Prop := x.2.2.1 < 4294967296 ∧ x.2.2.2 < 4294967296
theorem ceFew.ok {x : Ce} (h : ceFew x) (hu : ceU x) : ceOk x := ⟨by have := h.1; omega, by have := h.2; omega, hu.1, hu.2⟩
open Classical in
noncomputable def fewB (xs : List Ce) : Bool := decide ((xs = [] ∨ xs.length ≤ 400) ∧ ∀ x ∈ xs, ceFew x)
theorem fewB_of {xs : List Ce} (h : (xs = [] ∨ xs.length ≤ 400) ∧ ∀ x ∈ xs, ceFew x) : fewB xs = true := by
  unfold fewB; simp only [decide_eq_true_eq]; exact h
theorem fewB_not {xs : List Ce} (h : ¬ ((xs = [] ∨ xs.length ≤ 400) ∧ ∀ x ∈ xs, ceFew x)) : fewB xs = false := by
  unfold fewB; simp only [decide_eq_false_iff_not]; exact h
theorem fewB_true {xs : List Ce} (h : fewB xs = true) : xs.length ≤ 400 ∧ ∀ x ∈ xs, ceFew x := by
  by_cases h2 : (xs = [] ∨ xs.length ≤ 400) ∧ ∀ x ∈ xs, ceFew x
  · refine ⟨?_, h2.2⟩
    rcases h2.1 with rfl | h
    · simp
    · exact h
  · rw [fewB_not h2] at h; cases h
theorem law_few (A : Option Addr) (cap : Nat) (xs : List Ce) (hcap : xs.length ≤ cap) (hcm : cap ≤ maxLen) (w : World) (hs : SliceAt w A 4 ceCell xs) :
    Calls Try.prog 8 #[.slice A xs.length cap] w fun r w' => r = .returned (.bool (fewB xs)) ∧ Gr w w' := by
  unfold maxLen at hcm
  have HF : Hid (fewB xs = fewB xs) := rfl
  generalize hfb : fewB xs = fb at *
  replace HF := Lib.hid hfb
  clear hfb
  have HX := Lib.hid hs
  clear hs
  go_enter Try.func8, Try.ntmps8
  go_wp2
  go_loopw [7] (fun i wr => ∃ k : Nat, k ≤ xs.length ∧ i = .int .i64 (k : Nat) ∧ Hid (Gr w wr ∧ (0 < k → xs.length ≤ 400) ∧ ∀ x ∈ xs.take k, ceFew x)) (fun i _ => xs.length - (intOf i).toNat)
  case atStart => exact ⟨0, by omega, rfl, Gr.refl _, fun h => by omega, fun x hx => by simp at hx⟩
  case round =>
    obtain ⟨k, hk, rfl, HR⟩ := hrel
    by_cases hlt : k < xs.length
    · rcases HX.out with h0 | ⟨a, off, rfl, hcell⟩
      · subst h0; simp at hlt
      · have hget := List.getElem?_eq_getElem hlt
        have htk : ∀ x, xs[k] = x → ceFew x → (∀ x ∈ xs.take k, ceFew x) → ∀ x ∈ xs.take (k + 1), ceFew x := by
          intro y hy hf h1 x hx
          rw [List.take_succ_eq_append_getElem hlt] at hx
          rcases List.mem_append.1 hx with hx | hx
          · exact h1 x hx
          · simp only [List.mem_singleton] at hx; subst hx; rw [hy]; exact hf
        generalize xs[k] = x at *
        have htk := htk x rfl
        obtain ⟨e0, e1, e2, e3⟩ := x
        have a0 := HR.out.1.cells (hcell k _ hget 0 _ rfl)
        have a1 := HR.out.1.cells (hcell k _ hget 1 _ rfl)
        have a2 := HR.out.1.cells (hcell k _ hget 2 _ rfl)
        have a3 := HR.out.1.cells (hcell k _ hget 3 _ rfl)
        simp only [Nat.add_zero] at a0
        have HC := Lib.hid (And.intro hcell (And.intro hget htk))
        clear hcell hget htk
        by_cases h4 : 400 < xs.length
        · have h4' : (400 : Int) < (xs.length : Int) := by omega
          have hff : fb = false := by rw [← HF.out]; refine fewB_not ?_; rintro ⟨h1 | h1, _⟩; (· rw [h1] at hlt; simp at hlt); omega
          go_wp2
          go_ret
          exact ⟨(by first | rfl | exact ret_bool hff.symm), HR.out.1.alloc _⟩
        · have h4' : ¬ (400 : Int) < (xs.length : Int) := by omega
          by_cases h5 : 300 < e0.size
          · have h5' : (300 : Int) < (e0.size : Int) := by omega
            have hff : fb = false := by rw [← HF.out]; refine fewB_not ?_; rintro ⟨_, h1⟩; have h2 := (h1 _ (List.mem_of_getElem? HC.out.2.1)).1; simp only at h2; omega
            go_wp2
            go_ret
            exact ⟨(by first | rfl | exact ret_bool hff.symm), HR.out.1.alloc _⟩
          · have h5' : ¬ (300 : Int) < (e0.size : Int) := by omega
            by_cases h6 : 500 < e1.size
            · have h6' : (500 : Int) < (e1.size : Int) := by omega
              have hff : fb = false := by rw [← HF.out]; refine fewB_not ?_; rintro ⟨_, h1⟩; have h2 := (h1 _ (List.mem_of_getElem? HC.out.2.1)).2; simp only at h2; omega
              go_wp2
              go_ret
              exact ⟨(by first | rfl | exact ret_bool hff.symm), HR.out.1.alloc _⟩
            · have h6' : ¬ (500 : Int) < (e1.size : Int) := by omega
              have HT : Hid (Gr w (wr.alloc (.cells #[.string e0, .string e1, .int .u32 (e2 : Nat), .int .u32 (e3 : Nat)] 59)) ∧ (0 < k + 1 → xs.length ≤ 400) ∧ ∀ x ∈ xs.take (k + 1), ceFew x) := ⟨HR.out.1.alloc _, fun _ => by omega, HC.out.2.2 ⟨by simp only; omega, by simp only; omega⟩ HR.out.2.2⟩
              go_wp2
              go_roundw
              case rel => exact ⟨k + 1, by omega, by go_num, HT⟩
              case measure => simp [intOf]; omega
    · obtain rfl : k = xs.length := by omega
      go_wp2
      go_ret
      refine ⟨ret_bool ?_, HR.out.1⟩
      rw [← HF.out]; refine (fewB_of ⟨?_, ?_⟩).symm
      · cases xs with
        | nil => exact .inl rfl
        | cons x xs => exact .inr (HR.out.2.1 (by simp))
      · have h := HR.out.2.2; rw [List.take_length] at h; exact h
end Go.Proofs.Ytmpmfgkabjedpaa
