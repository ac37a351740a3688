/- Layer 6: the document reads a leaf's body (printed by slrread_gen.py). -/
import Derived.Test.YtmpmfgkabjedpaaMgDo06
import Derived.Test.YtmpmfgkabjedpaaMgDo10
import Derived.Test.YtmpmfgkabjedpaaMgDo24
import Derived.Test.YtmpmfgkabjedpaaMgDo27
namespace Go.Proofs.Ytmpmfgkabjedpaa
open Go.RowKit
set_option linter.unusedVariables false
set_option linter.unusedSimpArgs false
set_option maxRecDepth 100000
set_option maxHeartbeats 4000000
theorem lf_rdFail_no (e : Int) : rdFail e 4 ≠ 0 := by unfold rdFail; split <;> omega
/-- the document's walk over the bytes, so far -/
structure lfGo (D : List UInt8) (n k : Nat) (l : List Ce) (a b s : ByteArray) (e : Int) : Prop where
  good : e = 0 → a = B (slAt n (l.map lfB) 0) ∧ b = B (slCells (l.map lfB)) ∧ ∃ t, s = B t ∧ Mir lfB ceCan D n k l t
  bad : e ≠ 0 → ∀ L, ¬ Lay lfB ceCan D n L
theorem lfGo.no {D : List UInt8} {n k : Nat} {l : List Ce} {a b s : ByteArray} {e : Int} (h : lfGo D n k l a b s e) (hk : k < n) (hb : (rdCe s e).2.2 ≠ 0) : ∀ L, ¬ Lay lfB ceCan D n L := by
  by_cases he : e = 0
  · subst he
    obtain ⟨_, _, t, rfl, hm⟩ := h.good rfl
    exact fun L hL => hb (hm.bad rdg_ce hL hk)
  · exact h.bad he
theorem lfGo.step {D : List UInt8} {n k : Nat} {l : List Ce} {a b s s' : ByteArray} {e e' : Int} {x : Ce} (h : lfGo D n k l a b s e) (hk : k < n) (hg : rdCe s e = (x, s', e')) : lfGo D n (k + 1) (l ++ [x]) (a ++ B (Oct.be (2 * n + b.size) 2)) (b ++ lfB x) s' e' := by
  refine ⟨fun he => ?_, fun he => h.no hk (by rw [hg]; exact he)⟩
  subst he
  obtain ⟨h0, _, _⟩ := rdCe_back hg
  subst h0
  obtain ⟨ha, hb, t, rfl, hm⟩ := h.good rfl
  refine ⟨?_, ?_, s'.data.toList, by cases s'; rfl, hm.push rdg_ce hg⟩
  · rw [ha, hb, B_size, List.map_append, slAt_append, B_app]
    simp [slAt]
  · rw [hb, List.map_append, slCells_append]
    obtain ⟨q, hq⟩ := B_of (lfB x)
    simp [slCells, hq, B_app, B_list]
theorem lf_rread (D : List UInt8) (hD : D.length ≤ 8000) (count : Int) (hc64 : I64 count) (w : World) :
    Calls Try.prog 57 #[.string (B D), .int .i64 count, .bool true] w fun r w' => ∃ A cap, r = .returned (.tuple #[.slice A (lfAns D count).1.length cap, .int .i64 (lfAns D count).2]) ∧ Own w' w.heap.size 59 4 ceCell A cap (lfAns D count).1 ∧ Gr w w' := by
  have hBs : (B D).size = D.length := B_size D
  unfold I64 at hc64
  by_cases hneg : count < 0
  · have HA : Hid (lfAns D count = ([], 4)) := rdAns_neg hneg
    generalize lfAns D count = ans at *
    obtain rfl := HA.out
    go_enter Try.func57, Try.ntmps57
    go_wp2
    go_ret2
    exact ⟨none, 0, rfl, Own.nil _ _ _ _ _, Gr.refl _⟩
  obtain ⟨n, rfl⟩ : ∃ n : Nat, count = n := ⟨count.toNat, by omega⟩
  by_cases hn : 2 * n ≤ D.length
  case neg =>
    have HA : Hid (lfAns D n = ([], 4)) := rdAns_none fun L hL => hn hL.len
    generalize lfAns D n = ans at *
    obtain rfl := HA.out
    have hq : ((D.length : Nat) : Int) / 2 < (n : Int) := by omega
    have hq2 : (((D.length : Nat) : Int)).tdiv 2 = ((D.length : Nat) : Int) / 2 := Int.tdiv_eq_ediv_of_nonneg (by omega)
    go_enter Try.func57, Try.ntmps57
    go_wp2
    go_ret2
    exact ⟨none, 0, rfl, Own.nil _ _ _ _ _, Gr.refl _⟩
  have hq : ¬ ((D.length : Nat) : Int) / 2 < (n : Int) := by omega
  have hq2 : (((D.length : Nat) : Int)).tdiv 2 = ((D.length : Nat) : Int) / 2 := Int.tdiv_eq_ediv_of_nonneg (by omega)
  have hm : IntKind.i64.wrap (2 * (n : Int)) = 2 * (n : Int) := by rw [IntKind.wrap_i64]; omega
  have hb1 : 2 * (n : Int) ≤ ((D.length : Nat) : Int) := by omega
  have hb0 : (0 : Int) ≤ 2 * (n : Int) := by omega
  have hnt : (2 * (n : Int)).toNat = 2 * n := by omega
  obtain ⟨ans, hans⟩ : ∃ ans, ans = lfAns D n := ⟨_, rfl⟩
  have HANS := Lib.hid hans
  rw [← hans]
  clear hans
  have HF0 : Hid (∀ (W : World) (S : ByteArray), Gr w W → RdAt W w.heap.size S 0 → Rf 59 4 ceCell w W w.heap.size none 0 [] S 0) := fun W S hg hr => ⟨hg, hr, Own.nil _ _ _ _ _, Nat.le_refl _⟩
  obtain ⟨ii, hii, hz0, hz1, hz2⟩ := info_parts sl_info_ce
  have HX1 : Hid ((B D).extract (2 * n) D.length = B (D.drop (2 * n))) := by
    unfold Hid; rw [B_extract, List.take_of_length_le (by rw [List.length_drop]; exact Nat.le_refl _)]
  go_enter Try.func57, Try.ntmps57
  go_wp2
  have HF1 := Lib.hid (HF0.out (w.alloc (.cells #[.string (B (D.drop (2 * n))), .int .i64 0] 149)) _ ((Gr.refl w).alloc _) (RdAt.new w 149 (B (D.drop (2 * n))) 0))
  rw [HX1.out]
  clear HF0 HX1
  generalize w.alloc (.cells #[.string (B (D.drop (2 * n))), .int .i64 0] 149) = W at *
  obtain ⟨b, hbb⟩ : ∃ b, b = w.heap.size := ⟨_, rfl⟩
  rw [← hbb] at HF1 ⊢
  have HBB := Lib.hid hbb
  clear hbb
  go_loopw [9, 10, 11, 12] (fun v va vb i wr => ∃ (k : Nat) (A : Option Addr) (cap : Nat) (l : List Ce) (a bt s : ByteArray) (e : Int), k ≤ n ∧ i = .int .i64 (k : Nat) ∧ v = .slice A l.length cap ∧ va = .string a ∧ vb = .string bt ∧ l.length = k ∧ a.size ≤ 2 * k ∧ bt.size ≤ k * 60300 ∧ s.size ≤ D.length ∧ Hid (Rf 59 4 ceCell w wr b A cap l s e ∧ lfGo D n k l a bt s e ∧ ∀ x ∈ l, ceOk x)) (fun _ _ _ i _ => n - (intOf i).toNat)
  case atStart => exact ⟨0, none, 0, [], .empty, .empty, B (D.drop (2 * n)), 0, by omega, rfl, rfl, rfl, rfl, rfl, Nat.le_refl _, Nat.le_refl _, by rw [B_size, List.length_drop]; omega, HF1.out, ⟨fun _ => ⟨by simp [slAt, B]; rfl, by simp [slCells, B]; rfl, _, rfl, Mir.start D n⟩, fun h => absurd rfl h⟩, fun x hx => by simp at hx⟩
  case round =>
    obtain ⟨k, A, cap, l, a, bt, s, e, hk, rfl, rfl, rfl, rfl, hlk, ha, hbt, hsz, HR⟩ := hrel
    clear HF1
    by_cases hlt : k < n
    · have hk2 := HR.out.1.own.cap_le
      have HNO : Hid ((rdCe s e).2.2 ≠ 0 → ∀ L, ¬ Lay lfB ceCan D n L) := HR.out.2.1.no hlt
      have HGO : Hid (∀ x s' e', rdCe s e = (x, s', e') → lfGo D n (k + 1) (l ++ [x]) (a ++ B (Oct.be (2 * n + bt.size) 2)) (bt ++ lfB x) s' e') := fun x s' e' h => HR.out.2.1.step hlt h
      have HSZ := Lib.hid (rdCe_size s e (by omega))
      obtain ⟨q, hq3⟩ : ∃ q, q = rdCe s e := ⟨_, rfl⟩
      rw [← hq3] at HNO HSZ
      have HQE : Hid (rdCe s e = q) := hq3.symm
      have HRC := Lib.hid (Rc.start HR.out.1 59 #[.string { data := #[] }, .string { data := #[] }, .int .u32 0, .int .u32 0])
      have HOK := Lib.hid HR.out.2.2
      have hss : s.size ≤ maxLen := by unfold maxLen; omega
      have c1 := fun w1 h1 => Lib.hid (rref_num b s hss e 1 (by omega) w1 h1)
      have g1 := rdNum_size s e 1
      have g1l := rdNum_lt s e 1
      have hks : rdKey s e = rdTake (rdNum s e 1).2.1 (rdNum s e 1).2.2 (rdNum s e 1).1 := rfl
      have g2 := (rdKey_size s e).2
      unfold rdCe at hq3
      generalize rdNum s e 1 = p at *
      obtain ⟨n1, s1, e1⟩ := p
      simp only at g1 g1l c1 hks
      have c2 := fun w1 h1 => Lib.hid (rref_take b s1 (Nat.le_trans g1 hss) e1 (n1 : Nat) w1 h1)
      rw [← hks] at c2
      clear hks
      generalize rdKey s e = p at *
      obtain ⟨kk, s2, e2⟩ := p
      simp only at g2 c2 hq3
      obtain rfl : k = l.length := hlk.symm
      have e1q : ((1 : Nat) : Int) = 1 := rfl
      simp only [e1q] at c1
      clear e1q
      have c3 := fun w1 h1 => Lib.hid (rref_num b s2 (by unfold maxLen; omega) e2 1 (by omega) w1 h1)
      have g3 := rdNum_size s2 e2 1
      have g3l := rdNum_lt s2 e2 1
      generalize rdNum s2 e2 1 = p at *
      obtain ⟨m, s3, e3⟩ := p
      have ekq : ((1 : Nat) : Int) = 1 := rfl
      simp only [ekq] at c3
      simp only at g3 g3l c3 hq3
      clear ekq
      by_cases hm0 : m = 0
      · subst hm0
        rw [if_pos rfl] at hq3
        have c4 := fun w1 h1 => Lib.hid (rref_num b s3 (by unfold maxLen; omega) e3 2 (by omega) w1 h1)
        have g4 := rdNum_size s3 e3 2
        have g4l := rdNum_lt s3 e3 2
        generalize rdNum s3 e3 2 = p at *
        obtain ⟨n4, s4, e4⟩ := p
        have ekq : ((2 : Nat) : Int) = 2 := rfl
        simp only [ekq] at c4
        simp only at g4 g4l c4 hq3
        clear ekq
        have c5 := fun w1 h1 => Lib.hid (rref_take b s4 (by unfold maxLen; omega) e4 (n4 : Nat) w1 h1)
        generalize rdTake s4 e4 n4 = p at *
        obtain ⟨v, s5, e5⟩ := p
        simp only at c5 hq3
        have e00 : ((0 : Nat) : Int) = 0 := rfl
        simp only [e00] at c3
        clear e00
        have HG2 := Lib.hid (HGO.out (kk, v, 0, 0) s5 e5 (HQE.out.trans hq3))
        have HO2 : Hid (ceOk (kk, v, 0, 0)) := by
          have := HSZ.out.1
          rw [hq3] at this
          exact this
        have hs5 : s5.size ≤ D.length := by
          have := HSZ.out.2
          rw [hq3] at this
          simp only at this
          omega
        have HOL : Hid (∀ y, y ∈ l ++ [(kk, v, 0, 0)] → ceOk y) := by
          intro y hy
          rcases List.mem_append.1 hy with hy | hy
          · exact HOK.out y hy
          · simp only [List.mem_singleton] at hy; subst hy; exact HO2.out
        clear HGO HNO HQE HSZ hq3
        have cB := fun w1 => Lib.hid (ref_big (2 * n + bt.size) (by unfold U64; omega) 2 (by omega) w1)
        have hcv : IntKind.u64.wrap (2 * (n : Int) + ((bt.size : Nat) : Int)) = ((2 * n + bt.size : Nat) : Int) := by rw [show 2 * (n : Int) + ((bt.size : Nat) : Int) = ((2 * n + bt.size : Nat) : Int) by omega]; exact wrap_u64_of _ (by unfold U64; omega)
        have hci : IntKind.i64.wrap (2 * (n : Int) + ((bt.size : Nat) : Int)) = 2 * (n : Int) + ((bt.size : Nat) : Int) := by rw [IntKind.wrap_i64]; omega
        have cC := fun w1 => Lib.hid (rf_cell kk v 0 0 HO2.out.1 HO2.out.2.1 (by omega) (by omega) true w1)
        have hcb := rcB_size true (kk, v, 0, 0) HO2.out
        have hrc : rcB true (kk, v, 0, 0) = lfB (kk, v, 0, 0) := rfl
        rw [hrc] at cC hcb
        clear hrc
        generalize lfB (kk, v, 0, 0) = cb at *
        have hg2 := B_be_size (2 * n + bt.size) 2
        generalize B (Oct.be (2 * n + bt.size) 2) = g2 at *
        have e2q : ((2 : Nat) : Int) = 2 := rfl
        simp only [e2q] at cB
        clear e2q
        have hmul : (l.length + 1) * 60300 = l.length * 60300 + 60300 := by omega
        have hbig : l.length * 60300 ≤ 300000000 := by omega
        have hno1 : ¬ (9223372036854775807 < a.size + g2.size) := by omega
        have hno2 : ¬ (9223372036854775807 < bt.size + cb.size) := by omega
        rw [hg2] at hno1
        have HENC : Hid (ceCell (kk, v, 0, 0) = [.string kk, .string v, .int .u32 0, .int .u32 0]) := rfl
        go_wp2_with (first
          | (go_at_call 102; refine (c1 _ HRC.out.f.r).out.mono ?_; clear c1; rintro r v1 ⟨rfl, hr, hc⟩; have HR1 := Lib.hid (HRC.out.ch hc hr); clear hr hc)
          | (go_at_call 101; refine (c2 _ HR1.out.f.r).out.mono ?_; clear c2; rintro r v2 ⟨rfl, hr, hc⟩; have HR2 := Lib.hid (HR1.out.ch hc hr); clear hr hc; have x0 := row_cell HR2.out.row 0 _ rfl; have y0 := frozen_of_row _ _ 0 _ _ HR2.out.row; have HR3 := Lib.hid (HR2.out.set 0 (.string kk)))
          | (go_at_call 102; refine (c3 _ HR3.out.f.r).out.mono ?_; clear c3; rintro r v3 ⟨rfl, hr, hc⟩; have HR4 := Lib.hid (HR3.out.ch hc hr); clear hr hc)
          | (go_at_call 102; refine (c4 _ HR4.out.f.r).out.mono ?_; clear c4; rintro r v4 ⟨rfl, hr, hc⟩; have HR5 := Lib.hid (HR4.out.ch hc hr); clear hr hc)
          | (go_at_call 101; refine (c5 _ HR5.out.f.r).out.mono ?_; clear c5; rintro r v5 ⟨rfl, hr, hc⟩; have HR6 := Lib.hid (HR5.out.ch hc hr); clear hr hc; have x1 := row_cell HR6.out.row 1 _ rfl; have y1 := frozen_of_row _ _ 1 _ _ HR6.out.row; have HR7 := Lib.hid (HR6.out.set 1 (.string v)))
          | (go_at_call 95; refine (cB _).out.mono ?_; clear cB; rintro r v8 ⟨rfl, hg⟩; have HR8 := Lib.hid (HR7.out.gr' hg); clear hg; have x0 := row_cell HR8.out.row 0 _ rfl; have y0 := frozen_of_row _ _ 0 _ _ HR8.out.row; have x1 := row_cell HR8.out.row 1 _ rfl; have y1 := frozen_of_row _ _ 1 _ _ HR8.out.row; have x2 := row_cell HR8.out.row 2 _ rfl; have y2 := frozen_of_row _ _ 2 _ _ HR8.out.row; have x3 := row_cell HR8.out.row 3 _ rfl; have y3 := frozen_of_row _ _ 3 _ _ HR8.out.row)
          | (go_at_call 80; refine (cC _).out.mono ?_; clear cC; rintro r v9 ⟨rfl, hg⟩; have HR9 := Lib.hid (HR8.out.gr' hg); have HRA := Lib.hid ((HR9.out.gr' ((Gr.refl v9).alloc (.cells #[.string kk, .string v, .int .u32 0, .int .u32 0] 59))).f); have HN := Lib.hid (heap_alloc_last v9 (.cells #[.string kk, .string v, .int .u32 0, .int .u32 0] 59)); have HZ : Hid (b + 1 ≤ (v9.alloc (.cells #[.string kk, .string v, .int .u32 0, .int .u32 0] 59)).heap.size) := HRA.out.r.lt; clear hg; have x0 := row_cell HR9.out.row 0 _ rfl; have y0 := frozen_of_row _ _ 0 _ _ HR9.out.row; have x1 := row_cell HR9.out.row 1 _ rfl; have y1 := frozen_of_row _ _ 1 _ _ HR9.out.row; have x2 := row_cell HR9.out.row 2 _ rfl; have y2 := frozen_of_row _ _ 2 _ _ HR9.out.row; have x3 := row_cell HR9.out.row 3 _ rfl; have y3 := frozen_of_row _ _ 3 _ _ HR9.out.row)
          | (at_builtin; refine wpList_append_lies _ rfl _ _ 22 rfl (b + 1) 59 ii _ 4 40 Try.underlying22 hii hz0 hz1 hz2 rfl (by omega) (.slice A l.length cap) l.length (l.flatMap ceCell) rfl HRA.out.own ⟨v9.heap.size, 0, none⟩ 1 1 [.string kk, .string v, .int .u32 0, .int .u32 0] rfl rfl (World.news_of_block (cs := #[.string kk, .string v, .int .u32 0, .int .u32 0]) HN.out) (fun u hu => by simp at hu; rcases hu with rfl | rfl | rfl | rfl <;> rfl) (by omega) (by unfold maxLen; omega) (by omega) HZ.out _ rfl ?_; intro gg cq va hown hgrow hat hlt5; have HRB := Lib.hid (HRA.out.push hgrow (Own.push (kk, v, 0, 0) (by rw [HENC.out]; exact hown))); clear hown hgrow hat))
        have HT : Hid (Rf 59 4 ceCell w va b (some ⟨gg, 0, none⟩) cq (l ++ [(kk, v, 0, 0)]) s5 e5 ∧ lfGo D n (l.length + 1) (l ++ [(kk, v, 0, 0)]) (a ++ g2) (bt ++ cb) s5 e5 ∧ ∀ y ∈ l ++ [(kk, v, 0, 0)], ceOk y) := ⟨HRB.out, HG2.out, HOL.out⟩
        clear HR HRC HG2 HO2 HOL HRA HRB HN HZ HENC HR8 HR9
        go_roundw
        case rel => exact ⟨l.length + 1, _, _, l ++ [(kk, v, 0, 0)], a ++ g2, bt ++ cb, s5, e5, by omega, by go_num, (by rw [List.length_append, List.length_singleton]), rfl, rfl, (by rw [List.length_append, List.length_singleton]), (by rw [ByteArray.size_append]; omega), (by rw [ByteArray.size_append]; omega), hs5, HT⟩
        case measure => simp [intOf]; omega
      · rw [if_neg hm0] at hq3
        have hm2 : ¬ (m : Int) = 0 := by omega
        have c4 := fun w1 h1 => Lib.hid (rref_num b s3 (by unfold maxLen; omega) e3 4 (by omega) w1 h1)
        have g4 := rdNum_size s3 e3 4
        have g4l := rdNum_lt s3 e3 4
        generalize rdNum s3 e3 4 = p at *
        obtain ⟨c, s4, e4⟩ := p
        have ekq : ((4 : Nat) : Int) = 4 := rfl
        simp only [ekq] at c4
        simp only at g4 g4l c4 hq3
        clear ekq
        have c5 := fun w1 h1 => Lib.hid (rref_num b s4 (by unfold maxLen; omega) e4 4 (by omega) w1 h1)
        have g5 := rdNum_size s4 e4 4
        have g5l := rdNum_lt s4 e4 4
        generalize rdNum s4 e4 4 = p at *
        obtain ⟨lg, s5, e5⟩ := p
        have ekq : ((4 : Nat) : Int) = 4 := rfl
        simp only [ekq] at c5
        simp only at g5 g5l c5 hq3
        clear ekq
        by_cases hm1 : m = 1
        · subst hm1
          rw [if_pos rfl] at hq3
          have e11 : ((1 : Nat) : Int) = 1 := rfl
          simp only [e11] at c3
          clear e11 hm2
          by_cases hc : c = 0
          · subst hc
            rw [if_pos rfl] at hq3
            have e00 : ((0 : Nat) : Int) = 0 := rfl
            simp only [e00] at c4
            have HA : Hid (ans = ([], 4)) := HANS.out.trans (rdAns_none (HNO.out (by rw [hq3]; simp only; exact lf_rdFail_no e5)))
            obtain rfl := HA.out
            clear HA HNO HGO HSZ HQE hq3
            go_wp2_with (first
              | (go_at_call 102; refine (c1 _ HRC.out.f.r).out.mono ?_; clear c1; rintro r v1 ⟨rfl, hr, hc⟩; have HR1 := Lib.hid (HRC.out.ch hc hr); clear hr hc)
              | (go_at_call 101; refine (c2 _ HR1.out.f.r).out.mono ?_; clear c2; rintro r v2 ⟨rfl, hr, hc⟩; have HR2 := Lib.hid (HR1.out.ch hc hr); clear hr hc; have x0 := row_cell HR2.out.row 0 _ rfl; have y0 := frozen_of_row _ _ 0 _ _ HR2.out.row; have HR3 := Lib.hid (HR2.out.set 0 (.string kk)))
              | (go_at_call 102; refine (c3 _ HR3.out.f.r).out.mono ?_; clear c3; rintro r v3 ⟨rfl, hr, hc⟩; have HR4 := Lib.hid (HR3.out.ch hc hr); clear hr hc)
              | (go_at_call 102; refine (c4 _ HR4.out.f.r).out.mono ?_; clear c4; rintro r v4 ⟨rfl, hr, hc⟩; have HR5 := Lib.hid (HR4.out.ch hc hr); clear hr hc; have x2 := row_cell HR5.out.row 2 _ rfl; have y2 := frozen_of_row _ _ 2 _ _ HR5.out.row; have HR6 := Lib.hid (HR5.out.set 2 (.int .u32 0)))
              | (go_at_call 102; refine (c5 _ HR6.out.f.r).out.mono ?_; clear c5; rintro r v5 ⟨rfl, hr, hc⟩; have HR7 := Lib.hid (HR6.out.ch hc hr); clear hr hc; have x3 := row_cell HR7.out.row 3 _ rfl; have y3 := frozen_of_row _ _ 3 _ _ HR7.out.row; have HR77 := Lib.hid (HR7.out.set 3 (.int .u32 (lg : Nat))); have x2 := row_cell HR7.out.row 2 _ rfl; have y2 := frozen_of_row _ _ 2 _ _ HR7.out.row))
            go_ret2
            exact ⟨none, 0, rfl, Own.nil _ _ _ _ _, HR77.out.f.gr⟩
          · rw [if_neg hc] at hq3
            have hc2 : ¬ (c : Int) = 0 := by omega
            have HG2 := Lib.hid (HGO.out (kk, .empty, c, lg) s5 e5 (HQE.out.trans hq3))
            have HO2 : Hid (ceOk (kk, .empty, c, lg)) := by
              have := HSZ.out.1
              rw [hq3] at this
              exact this
            have hs5 : s5.size ≤ D.length := by
              have := HSZ.out.2
              rw [hq3] at this
              simp only at this
              omega
            have HOL : Hid (∀ y, y ∈ l ++ [(kk, .empty, c, lg)] → ceOk y) := by
              intro y hy
              rcases List.mem_append.1 hy with hy | hy
              · exact HOK.out y hy
              · simp only [List.mem_singleton] at hy; subst hy; exact HO2.out
            clear HGO HNO HQE HSZ hq3
            have cB := fun w1 => Lib.hid (ref_big (2 * n + bt.size) (by unfold U64; omega) 2 (by omega) w1)
            have hcv : IntKind.u64.wrap (2 * (n : Int) + ((bt.size : Nat) : Int)) = ((2 * n + bt.size : Nat) : Int) := by rw [show 2 * (n : Int) + ((bt.size : Nat) : Int) = ((2 * n + bt.size : Nat) : Int) by omega]; exact wrap_u64_of _ (by unfold U64; omega)
            have hci : IntKind.i64.wrap (2 * (n : Int) + ((bt.size : Nat) : Int)) = 2 * (n : Int) + ((bt.size : Nat) : Int) := by rw [IntKind.wrap_i64]; omega
            have cC := fun w1 => Lib.hid (rf_cell kk ⟨#[]⟩ c lg HO2.out.1 (by show (0 : Nat) ≤ _; omega) HO2.out.2.2.1 HO2.out.2.2.2 true w1)
            have hcb := rcB_size true (kk, ⟨#[]⟩, c, lg) HO2.out
            have hrc : rcB true (kk, ⟨#[]⟩, c, lg) = lfB (kk, .empty, c, lg) := rfl
            rw [hrc] at cC hcb
            clear hrc
            generalize lfB (kk, .empty, c, lg) = cb at *
            have hg2 := B_be_size (2 * n + bt.size) 2
            generalize B (Oct.be (2 * n + bt.size) 2) = g2 at *
            have e2q : ((2 : Nat) : Int) = 2 := rfl
            simp only [e2q] at cB
            clear e2q
            have hmul : (l.length + 1) * 60300 = l.length * 60300 + 60300 := by omega
            have hbig : l.length * 60300 ≤ 300000000 := by omega
            have hno1 : ¬ (9223372036854775807 < a.size + g2.size) := by omega
            have hno2 : ¬ (9223372036854775807 < bt.size + cb.size) := by omega
            rw [hg2] at hno1
            have HENC : Hid (ceCell (kk, .empty, c, lg) = [.string kk, .string { data := #[] }, .int .u32 (c : Nat), .int .u32 (lg : Nat)]) := rfl
            go_wp2_with (first
              | (go_at_call 102; refine (c1 _ HRC.out.f.r).out.mono ?_; clear c1; rintro r v1 ⟨rfl, hr, hc⟩; have HR1 := Lib.hid (HRC.out.ch hc hr); clear hr hc)
              | (go_at_call 101; refine (c2 _ HR1.out.f.r).out.mono ?_; clear c2; rintro r v2 ⟨rfl, hr, hc⟩; have HR2 := Lib.hid (HR1.out.ch hc hr); clear hr hc; have x0 := row_cell HR2.out.row 0 _ rfl; have y0 := frozen_of_row _ _ 0 _ _ HR2.out.row; have HR3 := Lib.hid (HR2.out.set 0 (.string kk)))
              | (go_at_call 102; refine (c3 _ HR3.out.f.r).out.mono ?_; clear c3; rintro r v3 ⟨rfl, hr, hc⟩; have HR4 := Lib.hid (HR3.out.ch hc hr); clear hr hc)
              | (go_at_call 102; refine (c4 _ HR4.out.f.r).out.mono ?_; clear c4; rintro r v4 ⟨rfl, hr, hc⟩; have HR5 := Lib.hid (HR4.out.ch hc hr); clear hr hc; have x2 := row_cell HR5.out.row 2 _ rfl; have y2 := frozen_of_row _ _ 2 _ _ HR5.out.row; have HR6 := Lib.hid (HR5.out.set 2 (.int .u32 (c : Nat))))
              | (go_at_call 102; refine (c5 _ HR6.out.f.r).out.mono ?_; clear c5; rintro r v5 ⟨rfl, hr, hc⟩; have HR7 := Lib.hid (HR6.out.ch hc hr); clear hr hc; have x3 := row_cell HR7.out.row 3 _ rfl; have y3 := frozen_of_row _ _ 3 _ _ HR7.out.row; have HR77 := Lib.hid (HR7.out.set 3 (.int .u32 (lg : Nat))); have x2 := row_cell HR7.out.row 2 _ rfl; have y2 := frozen_of_row _ _ 2 _ _ HR7.out.row)
              | (go_at_call 95; refine (cB _).out.mono ?_; clear cB; rintro r v8 ⟨rfl, hg⟩; have HR8 := Lib.hid (HR77.out.gr' hg); clear hg; have x0 := row_cell HR8.out.row 0 _ rfl; have y0 := frozen_of_row _ _ 0 _ _ HR8.out.row; have x1 := row_cell HR8.out.row 1 _ rfl; have y1 := frozen_of_row _ _ 1 _ _ HR8.out.row; have x2 := row_cell HR8.out.row 2 _ rfl; have y2 := frozen_of_row _ _ 2 _ _ HR8.out.row; have x3 := row_cell HR8.out.row 3 _ rfl; have y3 := frozen_of_row _ _ 3 _ _ HR8.out.row)
              | (go_at_call 80; refine (cC _).out.mono ?_; clear cC; rintro r v9 ⟨rfl, hg⟩; have HR9 := Lib.hid (HR8.out.gr' hg); have HRA := Lib.hid ((HR9.out.gr' ((Gr.refl v9).alloc (.cells #[.string kk, .string { data := #[] }, .int .u32 (c : Nat), .int .u32 (lg : Nat)] 59))).f); have HN := Lib.hid (heap_alloc_last v9 (.cells #[.string kk, .string { data := #[] }, .int .u32 (c : Nat), .int .u32 (lg : Nat)] 59)); have HZ : Hid (b + 1 ≤ (v9.alloc (.cells #[.string kk, .string { data := #[] }, .int .u32 (c : Nat), .int .u32 (lg : Nat)] 59)).heap.size) := HRA.out.r.lt; clear hg; have x0 := row_cell HR9.out.row 0 _ rfl; have y0 := frozen_of_row _ _ 0 _ _ HR9.out.row; have x1 := row_cell HR9.out.row 1 _ rfl; have y1 := frozen_of_row _ _ 1 _ _ HR9.out.row; have x2 := row_cell HR9.out.row 2 _ rfl; have y2 := frozen_of_row _ _ 2 _ _ HR9.out.row; have x3 := row_cell HR9.out.row 3 _ rfl; have y3 := frozen_of_row _ _ 3 _ _ HR9.out.row)
              | (at_builtin; refine wpList_append_lies _ rfl _ _ 22 rfl (b + 1) 59 ii _ 4 40 Try.underlying22 hii hz0 hz1 hz2 rfl (by omega) (.slice A l.length cap) l.length (l.flatMap ceCell) rfl HRA.out.own ⟨v9.heap.size, 0, none⟩ 1 1 [.string kk, .string { data := #[] }, .int .u32 (c : Nat), .int .u32 (lg : Nat)] rfl rfl (World.news_of_block (cs := #[.string kk, .string { data := #[] }, .int .u32 (c : Nat), .int .u32 (lg : Nat)]) HN.out) (fun u hu => by simp at hu; rcases hu with rfl | rfl | rfl | rfl <;> rfl) (by omega) (by unfold maxLen; omega) (by omega) HZ.out _ rfl ?_; intro gg cq va hown hgrow hat hlt5; have HRB := Lib.hid (HRA.out.push hgrow (Own.push (kk, .empty, c, lg) (by rw [HENC.out]; exact hown))); clear hown hgrow hat))
            have HT : Hid (Rf 59 4 ceCell w va b (some ⟨gg, 0, none⟩) cq (l ++ [(kk, .empty, c, lg)]) s5 e5 ∧ lfGo D n (l.length + 1) (l ++ [(kk, .empty, c, lg)]) (a ++ g2) (bt ++ cb) s5 e5 ∧ ∀ y ∈ l ++ [(kk, .empty, c, lg)], ceOk y) := ⟨HRB.out, HG2.out, HOL.out⟩
            clear HR HRC HG2 HO2 HOL HRA HRB HN HZ HENC HR8 HR9
            go_roundw
            case rel => exact ⟨l.length + 1, _, _, l ++ [(kk, .empty, c, lg)], a ++ g2, bt ++ cb, s5, e5, by omega, by go_num, (by rw [List.length_append, List.length_singleton]), rfl, rfl, (by rw [List.length_append, List.length_singleton]), (by rw [ByteArray.size_append]; omega), (by rw [ByteArray.size_append]; omega), hs5, HT⟩
            case measure => simp [intOf]; omega
        · rw [if_neg hm1] at hq3
          have hm3 : (1 : Int) < (m : Int) := by omega
          have HA : Hid (ans = ([], 4)) := HANS.out.trans (rdAns_none (HNO.out (by rw [hq3]; simp only; exact lf_rdFail_no e3)))
          obtain rfl := HA.out
          clear HA HNO HGO HSZ HQE hq3
          go_wp2_with (first
            | (go_at_call 102; refine (c1 _ HRC.out.f.r).out.mono ?_; clear c1; rintro r v1 ⟨rfl, hr, hc⟩; have HR1 := Lib.hid (HRC.out.ch hc hr); clear hr hc)
            | (go_at_call 101; refine (c2 _ HR1.out.f.r).out.mono ?_; clear c2; rintro r v2 ⟨rfl, hr, hc⟩; have HR2 := Lib.hid (HR1.out.ch hc hr); clear hr hc; have x0 := row_cell HR2.out.row 0 _ rfl; have y0 := frozen_of_row _ _ 0 _ _ HR2.out.row; have HR3 := Lib.hid (HR2.out.set 0 (.string kk)))
            | (go_at_call 102; refine (c3 _ HR3.out.f.r).out.mono ?_; clear c3; rintro r v3 ⟨rfl, hr, hc⟩; have HR4 := Lib.hid (HR3.out.ch hc hr); clear hr hc)
            | (go_at_call 102; refine (c4 _ HR4.out.f.r).out.mono ?_; clear c4; rintro r v4 ⟨rfl, hr, hc⟩; have HR5 := Lib.hid (HR4.out.ch hc hr); clear hr hc; have x2 := row_cell HR5.out.row 2 _ rfl; have y2 := frozen_of_row _ _ 2 _ _ HR5.out.row; have HR6 := Lib.hid (HR5.out.set 2 (.int .u32 (c : Nat))))
            | (go_at_call 102; refine (c5 _ HR6.out.f.r).out.mono ?_; clear c5; rintro r v5 ⟨rfl, hr, hc⟩; have HR7 := Lib.hid (HR6.out.ch hc hr); clear hr hc; have x3 := row_cell HR7.out.row 3 _ rfl; have y3 := frozen_of_row _ _ 3 _ _ HR7.out.row; have HR77 := Lib.hid (HR7.out.set 3 (.int .u32 (lg : Nat))); have x2 := row_cell HR7.out.row 2 _ rfl; have y2 := frozen_of_row _ _ 2 _ _ HR7.out.row))
          go_ret2
          exact ⟨none, 0, rfl, Own.nil _ _ _ _ _, HR77.out.f.gr⟩
    · obtain rfl : n = k := by omega
      have hcc := HR.out.1.own.cap_le
      have hcm1 := HR.out.1.own.cap_le.2
      have re := HR.out.1.r.e
      have hbig : n * 60300 ≤ 300000000 := by omega
      have hno1 : ¬ (9223372036854775807 < a.size + bt.size) := by omega
      have hll : l.length ≤ 4000 := by omega
      clear hlk
      by_cases he : e = 0
      case neg =>
        have HA : Hid (ans = ([], 4)) := HANS.out.trans (rdAns_none (HR.out.2.1.bad he))
        obtain rfl := HA.out
        have hne : (e != 0) = true := by simpa using he
        go_wp2
        go_ret2
        exact ⟨none, 0, rfl, Own.nil _ _ _ _ _, HR.out.1.gr⟩
      subst he
      obtain ⟨ha2, hb2, t, hs2, hmir⟩ := HR.out.2.1.good rfl
      have HAB := Lib.hid (And.intro ha2 (And.intro hb2 hmir))
      clear ha2 hb2 hs2 hmir
      by_cases hab : a ++ bt = B D
      case neg =>
        have HA : Hid (ans = ([], 4)) := by
          refine HANS.out.trans (rdAns_none fun L hL => hab ?_)
          obtain rfl := HAB.out.2.2.same rdg_ce hL
          rw [HAB.out.1, HAB.out.2.1, B_app, ← hL.2.2]
        obtain rfl := HA.out
        have hnab : ((a ++ bt).toList == (B D).toList) = false := by
          rw [beq_eq_false_iff_ne]
          intro hh
          apply hab
          rw [ByteArray.toList_eq, ByteArray.toList_eq] at hh
          apply ByteArray.ext
          apply Array.ext'
          exact hh
        have hnab2 : ((a ++ bt).toList != (B D).toList) = true := by rw [bne, hnab]; rfl
        clear hab
        go_wp2
        go_ret2
        exact ⟨none, 0, rfl, Own.nil _ _ _ _ _, HR.out.1.gr⟩
      have HLAY : Hid (Lay lfB ceCan D n l) := by
        refine ⟨HAB.out.2.2.1, HAB.out.2.2.2.1, ?_⟩
        have h := hab
        rw [HAB.out.1, HAB.out.2.1, B_app] at h
        have := congrArg (fun z : ByteArray => z.data.toList) h
        simpa [B] using this.symm
      have HA : Hid (ans = if lfErr l = 0 then (l, 0) else ([], lfErr l)) := HANS.out.trans (rdAns_some rdg_ce HLAY.out)
      have c5 := Lib.hid (rf_right true A cap l hcc.1 hcm1 hll HR.out.2.2 wr (HR.out.1.own.slice (fun _ => rfl)))
      rw [rcErr_leaf] at c5
      generalize lfErr l = er at *
      clear HAB HLAY
      by_cases he : er = 0
      · subst he
        rw [if_pos rfl] at HA
        obtain rfl := HA.out
        go_wp2_with (go_at_call 94; refine c5.out.mono ?_; clear c5; rintro r v9 ⟨rfl, hg⟩; have HR9 := Lib.hid (HR.out.1.gr' hg); clear hg)
        go_ret2
        exact ⟨A, cap, rfl, HR9.out.own.mono (by have := HR9.out.lo; have := HBB.out; omega), HR9.out.gr⟩
      · rw [if_neg he] at HA
        obtain rfl := HA.out
        have hne : (er != 0) = true := by simpa using he
        go_wp2_with (go_at_call 94; refine c5.out.mono ?_; clear c5; rintro r v9 ⟨rfl, hg⟩; have HR9 := Lib.hid (HR.out.1.gr' hg); clear hg)
        go_ret2
        exact ⟨none, 0, rfl, Own.nil _ _ _ _ _, HR9.out.gr⟩
end Go.Proofs.Ytmpmfgkabjedpaa
