/- Layer 6: the document reads a branch's body (printed by slrread_gen.py). -/
import Derived.Test.YtmpmfgkabjedpaaMgDo06
import Derived.Test.YtmpmfgkabjedpaaMgDo10
import Derived.Test.YtmpmfgkabjedpaaMgDo13
import Derived.Test.YtmpmfgkabjedpaaMgDo17
import Derived.Test.YtmpmfgkabjedpaaMgDo25
import Derived.Test.YtmpmfgkabjedpaaMgDo26
import Derived.Test.YtmpmfgkabjedpaaMgDo27
import Derived.Test.YtmpmfgkabjedpaaMgDo28
import Derived.Deep.LoopGhost
import Derived.Deep.RegionLaw
import Derived.Shelf.RegionOpenPlain
namespace Go.Proofs.Ytmpmfgkabjedpaa
open Go.RowKit
set_option linter.unusedVariables false
set_option linter.unusedSimpArgs false
set_option maxRecDepth 100000
set_option maxHeartbeats 4000000
theorem ki_rdFail_no (e : Int) : rdFail e 4 ≠ 0 := by unfold rdFail; split <;> omega
/-- the document's walk over the bytes, so far -/
structure kiGo (D : List UInt8) (n k : Nat) (l : List Ki) (a b s : ByteArray) (e : Int) : Prop where
  good : e = 0 → a = B (slAt n (l.map kiB) 0) ∧ b = B (slCells (l.map kiB)) ∧ ∃ t, s = B t ∧ Mir kiB kiCan D n k l t
  bad : e ≠ 0 → ∀ L, ¬ Lay kiB kiCan D n L
theorem kiGo.no {D : List UInt8} {n k : Nat} {l : List Ki} {a b s : ByteArray} {e : Int} (h : kiGo D n k l a b s e) (hk : k < n) (hb : (rdKi s e).2.2 ≠ 0) : ∀ L, ¬ Lay kiB kiCan D n L := by
  by_cases he : e = 0
  · subst he
    obtain ⟨_, _, t, rfl, hm⟩ := h.good rfl
    exact fun L hL => hb (hm.bad rdg_ki hL hk)
  · exact h.bad he
theorem kiGo.step {D : List UInt8} {n k : Nat} {l : List Ki} {a b s s' : ByteArray} {e e' : Int} {x : Ki} (h : kiGo D n k l a b s e) (hk : k < n) (hg : rdKi s e = (x, s', e')) : kiGo D n (k + 1) (l ++ [x]) (a ++ B (Oct.be (2 * n + b.size) 2)) (b ++ kiB x) s' e' := by
  refine ⟨fun he => ?_, fun he => h.no hk (by rw [hg]; exact he)⟩
  subst he
  obtain ⟨h0, _, _⟩ := rdKi_back hg
  subst h0
  obtain ⟨ha, hb, t, rfl, hm⟩ := h.good rfl
  refine ⟨?_, ?_, s'.data.toList, by cases s'; rfl, hm.push rdg_ki hg⟩
  · rw [ha, hb, B_size, List.map_append, slAt_append, B_app]
    simp [slAt]
  · rw [hb, List.map_append, slCells_append]
    obtain ⟨q, hq⟩ := B_of (kiB x)
    simp [slCells, hq, B_app, B_list]
theorem ki_rread (D : List UInt8) (hD : D.length ≤ 8000) (count : Int) (hc64 : I64 count) (w : World) :
    Calls Try.prog 57 #[.string (B D), .int .i64 count, .bool false] w fun r w' => ∃ A cap, r = .returned (.tuple #[.slice A (kiAns D count).1.length cap, .int .i64 (kiAns D count).2]) ∧ Own w' w.heap.size 59 4 (fun x : Ki => ceCell (ceOf x)) A cap (kiAns D count).1 ∧ Gr w w' := by
  have hBs : (B D).size = D.length := B_size D
  unfold I64 at hc64
  by_cases hneg : count < 0
  · have HA : Hid (kiAns D count = ([], 4)) := rdAns_neg hneg
    generalize kiAns D count = ans at *
    obtain rfl := HA.out
    go_enter Try.func57, Try.ntmps57
    go_wp2
    go_ret2
    exact ⟨none, 0, rfl, Own.nil _ _ _ _ _, Gr.refl _⟩
  obtain ⟨n, rfl⟩ : ∃ n : Nat, count = n := ⟨count.toNat, by omega⟩
  by_cases hn : 2 * n ≤ D.length
  case neg =>
    have HA : Hid (kiAns D n = ([], 4)) := rdAns_none fun L hL => hn hL.len
    generalize kiAns D n = ans at *
    obtain rfl := HA.out
    have hq : ((D.length : Nat) : Int) / 2 < (n : Int) := by omega
    have hq2 : (((D.length : Nat) : Int)).tdiv 2 = ((D.length : Nat) : Int) / 2 := Int.tdiv_eq_ediv_of_nonneg (by omega)
    go_enter Try.func57, Try.ntmps57
    go_wp2
    go_ret2
    exact ⟨none, 0, rfl, Own.nil _ _ _ _ _, Gr.refl _⟩
  have hq : ¬ ((D.length : Nat) : Int) / 2 < (n : Int) := by omega
  have hq2 : (((D.length : Nat) : Int)).tdiv 2 = ((D.length : Nat) : Int) / 2 := Int.tdiv_eq_ediv_of_nonneg (by omega)
  have hm : IntKind.i64.wrap (2 * (n : Int)) = 2 * (n : Int) := by rw [IntKind.wrap_i64]; omega
  have hb1 : 2 * (n : Int) ≤ ((D.length : Nat) : Int) := by omega
  have hb0 : (0 : Int) ≤ 2 * (n : Int) := by omega
  have hnt : (2 * (n : Int)).toNat = 2 * n := by omega
  obtain ⟨ans, hans⟩ : ∃ ans, ans = kiAns D n := ⟨_, rfl⟩
  have HANS := Lib.hid hans
  rw [← hans]
  clear hans
  have HF0 : Hid (∀ (W : World) (S : ByteArray), Gr w W → RdAt W w.heap.size S 0 → Rf 59 4 (fun x : Ki => ceCell (ceOf x)) w W w.heap.size none 0 [] S 0) := fun W S hg hr => ⟨hg, hr, Own.nil _ _ _ _ _, Nat.le_refl _⟩
  obtain ⟨ii, hii, hz0, hz1, hz2⟩ := info_parts sl_info_ce
  have HX1 : Hid ((B D).extract (2 * n) D.length = B (D.drop (2 * n))) := by
    unfold Hid; rw [B_extract, List.take_of_length_le (by rw [List.length_drop]; exact Nat.le_refl _)]
  go_enter Try.func57, Try.ntmps57
  go_wp2
  have HF1 := Lib.hid (HF0.out (w.alloc (.cells #[.string (B (D.drop (2 * n))), .int .i64 0] 149)) _ ((Gr.refl w).alloc _) (RdAt.new w 149 (B (D.drop (2 * n))) 0))
  rw [HX1.out]
  clear HF0 HX1
  generalize w.alloc (.cells #[.string (B (D.drop (2 * n))), .int .i64 0] 149) = W at *
  obtain ⟨b, hbb⟩ : ∃ b, b = w.heap.size := ⟨_, rfl⟩
  rw [← hbb] at HF1 ⊢
  have HBB := Lib.hid hbb
  clear hbb
  go_loopw [9, 10, 11, 12] (fun v va vb i wr => ∃ (k : Nat) (A : Option Addr) (cap : Nat) (l : List Ki) (a bt s : ByteArray) (e : Int), k ≤ n ∧ i = .int .i64 (k : Nat) ∧ v = .slice A l.length cap ∧ va = .string a ∧ vb = .string bt ∧ l.length = k ∧ a.size ≤ 2 * k ∧ bt.size ≤ k * 60300 ∧ s.size ≤ D.length ∧ Hid (Rf 59 4 (fun x : Ki => ceCell (ceOf x)) w wr b A cap l s e ∧ kiGo D n k l a bt s e ∧ ∀ x ∈ l, kiOk x)) (fun _ _ _ i _ => n - (intOf i).toNat)
  case atStart => exact ⟨0, none, 0, [], .empty, .empty, B (D.drop (2 * n)), 0, by omega, rfl, rfl, rfl, rfl, rfl, Nat.le_refl _, Nat.le_refl _, by rw [B_size, List.length_drop]; omega, HF1.out, ⟨fun _ => ⟨by simp [slAt, B]; rfl, by simp [slCells, B]; rfl, _, rfl, Mir.start D n⟩, fun h => absurd rfl h⟩, fun x hx => by simp at hx⟩
  case round =>
    obtain ⟨k, A, cap, l, a, bt, s, e, hk, rfl, rfl, rfl, rfl, hlk, ha, hbt, hsz, HR⟩ := hrel
    clear HF1
    by_cases hlt : k < n
    · have hk2 := HR.out.1.own.cap_le
      have HNO : Hid ((rdKi s e).2.2 ≠ 0 → ∀ L, ¬ Lay kiB kiCan D n L) := HR.out.2.1.no hlt
      have HGO : Hid (∀ x s' e', rdKi s e = (x, s', e') → kiGo D n (k + 1) (l ++ [x]) (a ++ B (Oct.be (2 * n + bt.size) 2)) (bt ++ kiB x) s' e') := fun x s' e' h => HR.out.2.1.step hlt h
      have HSZ := Lib.hid (rdKi_size s e (by omega))
      obtain ⟨q, hq3⟩ : ∃ q, q = rdKi s e := ⟨_, rfl⟩
      rw [← hq3] at HNO HSZ
      have HQE : Hid (rdKi s e = q) := hq3.symm
      have HRC := Lib.hid (Rc.start HR.out.1 59 #[.string { data := #[] }, .string { data := #[] }, .int .u32 0, .int .u32 0])
      have HOK := Lib.hid HR.out.2.2
      have hss : s.size ≤ maxLen := by unfold maxLen; omega
      have c1 := fun w1 h1 => Lib.hid (rref_num b s hss e 1 (by omega) w1 h1)
      have g1 := rdNum_size s e 1
      have g1l := rdNum_lt s e 1
      have hks : rdKey s e = rdTake (rdNum s e 1).2.1 (rdNum s e 1).2.2 (rdNum s e 1).1 := rfl
      have g2 := (rdKey_size s e).2
      unfold rdKi at hq3
      generalize rdNum s e 1 = p at *
      obtain ⟨n1, s1, e1⟩ := p
      simp only at g1 g1l c1 hks
      have c2 := fun w1 h1 => Lib.hid (rref_take b s1 (Nat.le_trans g1 hss) e1 (n1 : Nat) w1 h1)
      rw [← hks] at c2
      clear hks
      generalize rdKey s e = p at *
      obtain ⟨kk, s2, e2⟩ := p
      simp only at g2 c2 hq3
      obtain rfl : k = l.length := hlk.symm
      have e1q : ((1 : Nat) : Int) = 1 := rfl
      simp only [e1q] at c1
      clear e1q
      have c3 := fun w1 h1 => Lib.hid (rref_num b s2 (by unfold maxLen; omega) e2 4 (by omega) w1 h1)
      have g3 := rdNum_size s2 e2 4
      have g3l := rdNum_lt s2 e2 4
      generalize rdNum s2 e2 4 = p at *
      obtain ⟨pg, s5, e5⟩ := p
      have ekq : ((4 : Nat) : Int) = 4 := rfl
      simp only [ekq] at c3
      simp only at g3 g3l c3 hq3
      clear ekq
      have HG2 := Lib.hid (HGO.out (kk, pg) s5 e5 (HQE.out.trans hq3))
      have HO2 : Hid (kiOk (kk, pg)) := by
        have := HSZ.out.1
        rw [hq3] at this
        exact this
      have hs5 : s5.size ≤ D.length := by
        have := HSZ.out.2
        rw [hq3] at this
        simp only at this
        omega
      have HOL : Hid (∀ y, y ∈ l ++ [(kk, pg)] → kiOk y) := by
        intro y hy
        rcases List.mem_append.1 hy with hy | hy
        · exact HOK.out y hy
        · simp only [List.mem_singleton] at hy; subst hy; exact HO2.out
      clear HGO HNO HQE HSZ hq3
      have cB := fun w1 => Lib.hid (ref_big (2 * n + bt.size) (by unfold U64; omega) 2 (by omega) w1)
      have hcv : IntKind.u64.wrap (2 * (n : Int) + ((bt.size : Nat) : Int)) = ((2 * n + bt.size : Nat) : Int) := by rw [show 2 * (n : Int) + ((bt.size : Nat) : Int) = ((2 * n + bt.size : Nat) : Int) by omega]; exact wrap_u64_of _ (by unfold U64; omega)
      have hci : IntKind.i64.wrap (2 * (n : Int) + ((bt.size : Nat) : Int)) = 2 * (n : Int) + ((bt.size : Nat) : Int) := by rw [IntKind.wrap_i64]; omega
      have cC := fun w1 => Lib.hid (rf_cell kk ⟨#[]⟩ pg 0 HO2.out.1 (by show (0 : Nat) ≤ _; omega) HO2.out.2 (by omega) false w1)
      have hcb := rcB_size false (kk, ⟨#[]⟩, pg, 0) ⟨HO2.out.1, by show (0 : Nat) ≤ _; omega, HO2.out.2, by show (0 : Nat) < _; omega⟩
      have hrc : rcB false (kk, ⟨#[]⟩, pg, 0) = kiB (kk, pg) := rfl
      rw [hrc] at cC hcb
      clear hrc
      generalize kiB (kk, pg) = cb at *
      have hg2 := B_be_size (2 * n + bt.size) 2
      generalize B (Oct.be (2 * n + bt.size) 2) = g2 at *
      have e2q : ((2 : Nat) : Int) = 2 := rfl
      simp only [e2q] at cB
      clear e2q
      have hmul : (l.length + 1) * 60300 = l.length * 60300 + 60300 := by omega
      have hbig : l.length * 60300 ≤ 300000000 := by omega
      have hno1 : ¬ (9223372036854775807 < a.size + g2.size) := by omega
      have hno2 : ¬ (9223372036854775807 < bt.size + cb.size) := by omega
      rw [hg2] at hno1
      have HENC : Hid ((fun x : Ki => ceCell (ceOf x)) (kk, pg) = [.string kk, .string { data := #[] }, .int .u32 (pg : Nat), .int .u32 0]) := rfl
      go_wp2_with (first
        | (go_at_call 102; refine (c1 _ HRC.out.f.r).out.mono ?_; clear c1; rintro r v1 ⟨rfl, hr, hc⟩; have HR1 := Lib.hid (HRC.out.ch hc hr); clear hr hc)
        | (go_at_call 101; refine (c2 _ HR1.out.f.r).out.mono ?_; clear c2; rintro r v2 ⟨rfl, hr, hc⟩; have HR2 := Lib.hid (HR1.out.ch hc hr); clear hr hc; have x0 := row_cell HR2.out.row 0 _ rfl; have y0 := frozen_of_row _ _ 0 _ _ HR2.out.row; have HR3 := Lib.hid (HR2.out.set 0 (.string kk)))
        | (go_at_call 102; refine (c3 _ HR3.out.f.r).out.mono ?_; clear c3; rintro r v3 ⟨rfl, hr, hc⟩; have HR4 := Lib.hid (HR3.out.ch hc hr); clear hr hc; have x2 := row_cell HR4.out.row 2 _ rfl; have y2 := frozen_of_row _ _ 2 _ _ HR4.out.row; have HR5 := Lib.hid (HR4.out.set 2 (.int .u32 (pg : Nat))))
        | (go_at_call 95; refine (cB _).out.mono ?_; clear cB; rintro r v8 ⟨rfl, hg⟩; have HR8 := Lib.hid (HR5.out.gr' hg); clear hg; have x0 := row_cell HR8.out.row 0 _ rfl; have y0 := frozen_of_row _ _ 0 _ _ HR8.out.row; have x1 := row_cell HR8.out.row 1 _ rfl; have y1 := frozen_of_row _ _ 1 _ _ HR8.out.row; have x2 := row_cell HR8.out.row 2 _ rfl; have y2 := frozen_of_row _ _ 2 _ _ HR8.out.row; have x3 := row_cell HR8.out.row 3 _ rfl; have y3 := frozen_of_row _ _ 3 _ _ HR8.out.row)
        | (go_at_call 80; refine (cC _).out.mono ?_; clear cC; rintro r v9 ⟨rfl, hg⟩; have HR9 := Lib.hid (HR8.out.gr' hg); have HRA := Lib.hid ((HR9.out.gr' ((Gr.refl v9).alloc (.cells #[.string kk, .string { data := #[] }, .int .u32 (pg : Nat), .int .u32 0] 59))).f); have HN := Lib.hid (heap_alloc_last v9 (.cells #[.string kk, .string { data := #[] }, .int .u32 (pg : Nat), .int .u32 0] 59)); have HZ : Hid (b + 1 ≤ (v9.alloc (.cells #[.string kk, .string { data := #[] }, .int .u32 (pg : Nat), .int .u32 0] 59)).heap.size) := HRA.out.r.lt; clear hg; have x0 := row_cell HR9.out.row 0 _ rfl; have y0 := frozen_of_row _ _ 0 _ _ HR9.out.row; have x1 := row_cell HR9.out.row 1 _ rfl; have y1 := frozen_of_row _ _ 1 _ _ HR9.out.row; have x2 := row_cell HR9.out.row 2 _ rfl; have y2 := frozen_of_row _ _ 2 _ _ HR9.out.row; have x3 := row_cell HR9.out.row 3 _ rfl; have y3 := frozen_of_row _ _ 3 _ _ HR9.out.row)
        | (at_builtin; refine wpList_append_lies _ rfl _ _ 22 rfl (b + 1) 59 ii _ 4 40 Try.underlying22 hii hz0 hz1 hz2 rfl (by omega) (.slice A l.length cap) l.length (l.flatMap (fun x : Ki => ceCell (ceOf x))) rfl HRA.out.own ⟨v9.heap.size, 0, none⟩ 1 1 [.string kk, .string { data := #[] }, .int .u32 (pg : Nat), .int .u32 0] rfl rfl (World.news_of_block (cs := #[.string kk, .string { data := #[] }, .int .u32 (pg : Nat), .int .u32 0]) HN.out) (fun u hu => by simp at hu; rcases hu with rfl | rfl | rfl | rfl <;> rfl) (by omega) (by unfold maxLen; omega) (by omega) HZ.out _ rfl ?_; intro gg cq va hown hgrow hat hlt5; have HRB := Lib.hid (HRA.out.push hgrow (Own.push (kk, pg) (by rw [HENC.out]; exact hown))); clear hown hgrow hat))
      have HT : Hid (Rf 59 4 (fun x : Ki => ceCell (ceOf x)) w va b (some ⟨gg, 0, none⟩) cq (l ++ [(kk, pg)]) s5 e5 ∧ kiGo D n (l.length + 1) (l ++ [(kk, pg)]) (a ++ g2) (bt ++ cb) s5 e5 ∧ ∀ y ∈ l ++ [(kk, pg)], kiOk y) := ⟨HRB.out, HG2.out, HOL.out⟩
      clear HR HRC HG2 HO2 HOL HRA HRB HN HZ HENC HR8 HR9
      go_roundw
      case rel => exact ⟨l.length + 1, _, _, l ++ [(kk, pg)], a ++ g2, bt ++ cb, s5, e5, by omega, by go_num, (by rw [List.length_append, List.length_singleton]), rfl, rfl, (by rw [List.length_append, List.length_singleton]), (by rw [ByteArray.size_append]; omega), (by rw [ByteArray.size_append]; omega), hs5, HT⟩
      case measure => simp [intOf]; omega
    · obtain rfl : n = k := by omega
      have hcc := HR.out.1.own.cap_le
      have hcm1 := HR.out.1.own.cap_le.2
      have re := HR.out.1.r.e
      have hbig : n * 60300 ≤ 300000000 := by omega
      have hno1 : ¬ (9223372036854775807 < a.size + bt.size) := by omega
      have hll : l.length ≤ 4000 := by omega
      clear hlk
      by_cases he : e = 0
      case neg =>
        have HA : Hid (ans = ([], 4)) := HANS.out.trans (rdAns_none (HR.out.2.1.bad he))
        obtain rfl := HA.out
        have hne : (e != 0) = true := by simpa using he
        go_wp2
        go_ret2
        exact ⟨none, 0, rfl, Own.nil _ _ _ _ _, HR.out.1.gr⟩
      subst he
      obtain ⟨ha2, hb2, t, hs2, hmir⟩ := HR.out.2.1.good rfl
      have HAB := Lib.hid (And.intro ha2 (And.intro hb2 hmir))
      clear ha2 hb2 hs2 hmir
      by_cases hab : a ++ bt = B D
      case neg =>
        have HA : Hid (ans = ([], 4)) := by
          refine HANS.out.trans (rdAns_none fun L hL => hab ?_)
          obtain rfl := HAB.out.2.2.same rdg_ki hL
          rw [HAB.out.1, HAB.out.2.1, B_app, ← hL.2.2]
        obtain rfl := HA.out
        have hnab : ((a ++ bt).toList == (B D).toList) = false := by
          rw [beq_eq_false_iff_ne]
          intro hh
          apply hab
          rw [ByteArray.toList_eq, ByteArray.toList_eq] at hh
          apply ByteArray.ext
          apply Array.ext'
          exact hh
        have hnab2 : ((a ++ bt).toList != (B D).toList) = true := by rw [bne, hnab]; rfl
        clear hab
        go_wp2
        go_ret2
        exact ⟨none, 0, rfl, Own.nil _ _ _ _ _, HR.out.1.gr⟩
      have HLAY : Hid (Lay kiB kiCan D n l) := by
        refine ⟨HAB.out.2.2.1, HAB.out.2.2.2.1, ?_⟩
        have h := hab
        rw [HAB.out.1, HAB.out.2.1, B_app] at h
        have := congrArg (fun z : ByteArray => z.data.toList) h
        simpa [B] using this.symm
      have HA : Hid (ans = if kiErr l = 0 then (l, 0) else ([], kiErr l)) := HANS.out.trans (rdAns_some rdg_ki HLAY.out)
      have c5 := Lib.hid (rf_right false A cap (l.map ceOf) (by rw [List.length_map]; exact hcc.1) hcm1 (by rw [List.length_map]; exact hll) (fun x hx => by obtain ⟨y, hy, rfl⟩ := List.mem_map.1 hx; exact ⟨(HR.out.2.2 y hy).1, by show (0 : Nat) ≤ _; omega, (HR.out.2.2 y hy).2, by show (0 : Nat) < _; omega⟩) wr (HR.out.1.own.map.slice (fun _ => rfl)))
      rw [rcErr_kids, List.length_map] at c5
      generalize kiErr l = er at *
      clear HAB HLAY
      by_cases he : er = 0
      · subst he
        rw [if_pos rfl] at HA
        obtain rfl := HA.out
        go_wp2_with (go_at_call 94; refine c5.out.mono ?_; clear c5; rintro r v9 ⟨rfl, hg⟩; have HR9 := Lib.hid (HR.out.1.gr' hg); clear hg)
        go_ret2
        exact ⟨A, cap, rfl, HR9.out.own.mono (by have := HR9.out.lo; have := HBB.out; omega), HR9.out.gr⟩
      · rw [if_neg he] at HA
        obtain rfl := HA.out
        have hne : (er != 0) = true := by simpa using he
        go_wp2_with (go_at_call 94; refine c5.out.mono ?_; clear c5; rintro r v9 ⟨rfl, hg⟩; have HR9 := Lib.hid (HR.out.1.gr' hg); clear hg)
        go_ret2
        exact ⟨none, 0, rfl, Own.nil _ _ _ _ _, HR9.out.gr⟩
end Go.Proofs.Ytmpmfgkabjedpaa
namespace Go.Proofs.Ytmpmfgkabjedpaa
open Go.RowKit
set_option linter.unusedVariables false
set_option linter.unusedSimpArgs false
set_option maxRecDepth 100000
set_option maxHeartbeats 2000000
theorem kislice {w : World} {A : Option Addr} {xs : List Ki} (h : SliceAt w A 4 (fun x : Ki => ceCell (ceOf x)) xs) : SliceAt w A 4 ceCell (xs.map ceOf) := by
  rcases h with rfl | ⟨a, off, rfl, hc⟩
  · exact .inl rfl
  · refine .inr ⟨a, off, rfl, fun i x hx => ?_⟩
    rw [List.getElem?_map] at hx
    cases hq : xs[i]? with
    | none => rw [hq] at hx; cases hx
    | some y => rw [hq] at hx; cases hx; exact hc i y hq
theorem rf_ofL (n id tx : Nat) (hn : n < 65536) (D : List UInt8) (hD : D.length ≤ 8000) (w : World) :
    Calls Try.prog 20 #[.agg #[.int .u8 2, .int .u16 (n : Nat), .int .u32 (id : Nat), .int .u64 (tx : Nat), .string (B D)]] w fun r w' => ∃ b, r = .returned (.tuple #[.agg #[.bool ((lfAns D n).2 == 0), b], .int .i64 (lfAns D n).2]) ∧ RfAt w' ((lfAns D n).2 == 0) (.agg #[.bool ((lfAns D n).2 == 0), b]) (lfAns D n).1 ∧ Gr w w' := by
  have cB := fun w1 => Lib.hid (lf_rread D hD n (by unfold I64; omega) w1)
  have hcs := rdAns_cases lfB ceCan ceBad (fun x : Ce => x.1) D (n : Int)
  change (∃ l : List Ce, lfAns D n = (l, 0) ∧ _) ∨ (∃ e, e ≠ 0 ∧ lfAns D n = ([], e)) at hcs
  have hcs2 : ((lfAns D n).2 ≠ 0 → (lfAns D n).1 = []) := by
    rcases hcs with ⟨l, h, h0, hL, _⟩ | ⟨e, he, h⟩
    · rw [h]; exact fun k => absurd rfl k
    · rw [h]; exact fun _ => rfl
  clear hcs
  generalize lfAns D n = dd at *
  obtain ⟨xs, be⟩ := dd
  simp only at cB hcs2
  have hw64 : IntKind.i64.wrap ((n : Nat) : Int) = ((n : Nat) : Int) := by rw [IntKind.wrap_i64]; omega
  obtain ⟨r0, r1, r2⟩ := heap_alloc3 w (.cells #[.int .u8 2, .int .u16 (n : Nat), .int .u32 (id : Nat), .int .u64 (tx : Nat), .string (B D)] 49) (.cells #[.bool false, .slice none 0 0] 32) (.cells #[.bool true, .slice none 0 0] 32)
  have HU : Hid (Gr w (((w.alloc (.cells #[.int .u8 2, .int .u16 (n : Nat), .int .u32 (id : Nat), .int .u64 (tx : Nat), .string (B D)] 49)).alloc (.cells #[.bool false, .slice none 0 0] 32)).alloc (.cells #[.bool true, .slice none 0 0] 32)) ∧ (((w.alloc (.cells #[.int .u8 2, .int .u16 (n : Nat), .int .u32 (id : Nat), .int .u64 (tx : Nat), .string (B D)] 49)).alloc (.cells #[.bool false, .slice none 0 0] 32)).alloc (.cells #[.bool true, .slice none 0 0] 32)).heap[w.heap.size + 1]? = some (.cells #[.bool false, .slice none 0 0] 32 (0, 0)) ∧ (((w.alloc (.cells #[.int .u8 2, .int .u16 (n : Nat), .int .u32 (id : Nat), .int .u64 (tx : Nat), .string (B D)] 49)).alloc (.cells #[.bool false, .slice none 0 0] 32)).alloc (.cells #[.bool true, .slice none 0 0] 32)).heap[w.heap.size + 1 + 1]? = some (.cells #[.bool true, .slice none 0 0] 32 (0, 0)) ∧ (((w.alloc (.cells #[.int .u8 2, .int .u16 (n : Nat), .int .u32 (id : Nat), .int .u64 (tx : Nat), .string (B D)] 49)).alloc (.cells #[.bool false, .slice none 0 0] 32)).alloc (.cells #[.bool true, .slice none 0 0] 32)).heap.size = w.heap.size + 3) := ⟨(((Gr.refl w).alloc _).alloc _).alloc _, r1, r2, by simp only [alloc_size]⟩
  clear r0 r1 r2
  by_cases he : be = 0
  · subst he
    go_enter Try.func20, Try.ntmps20
    go_wp2_with (first
      | (go_at_call 57; refine (cB _).out.mono ?_; clear cB; rintro r v3 ⟨A, cap, rfl, ho, hg⟩; have hu := HU.out.2.2.2; rw [hu] at ho; have HO := Lib.hid ho; have HG3 := Lib.hid (HU.out.1.trans hg); have hy := (hg.block (lt_of_row HU.out.2.1)).trans HU.out.2.1; have hf3 := (hg.block (lt_of_row HU.out.2.2.1)).trans HU.out.2.2.1; have n0 := row_cell hf3 0 _ rfl; have n1 := row_cell hf3 1 _ rfl; have z1 := frozen_of_row _ _ 1 _ _ hf3; have y0 := row_cell hy 0 _ rfl; have y1 := row_cell hy 1 _ rfl; have fy0 := frozen_of_row _ _ 0 _ _ hy; have fy1 := frozen_of_row _ _ 1 _ _ hy; have HF3 := Lib.hid (And.intro hy hf3); have hno : ownOf A ≠ some (w.heap.size + 1 + 1) := (fun he => by have h1 := (HO.out.lt he).2; omega); have hf4 := heap_setCell_same _ _ 1 _ _ (.slice A xs.length cap) hf3; have hy4 := (heap_setCell_other v3 ⟨w.heap.size + 1 + 1, 1, none⟩ (w.heap.size + 1) (.slice A xs.length cap) (by show w.heap.size + 1 ≠ w.heap.size + 1 + 1; omega)).trans hy; have HO4 : Hid (Own (v3.setCell ⟨w.heap.size + 1 + 1, 1, none⟩ (.slice A xs.length cap)) (w.heap.size + 3) 59 4 ceCell A cap xs) := ho.ch ((Ch.refl (w.heap.size + 1 + 1) v3).setCell 1 (.slice A xs.length cap)) hno; have m0 := row_cell hf4 0 _ rfl; have m1 := row_cell hf4 1 _ rfl; have HF4 := Lib.hid (And.intro (((Ch.refl (w.heap.size + 1 + 1) v3).setCell 1 (.slice A xs.length cap)).gr HG3.out (by omega)) (And.intro hy4 hf4)); clear hf4 hy4 hno; clear hg hf3 ho hu hy)
      | (go_at_call 53; refine (rf_rightL _ xs _ ⟨A, cap, rfl, (HO4.out).slice ceCell_len, HO.out.cap_le.1, HO.out.cap_le.2⟩).mono ?_; rintro r v5 ⟨rfl, hg⟩; have hy := (hg.block (lt_of_row HF4.out.2.1)).trans HF4.out.2.1; have hn5 := (hg.block (lt_of_row HF4.out.2.2)).trans HF4.out.2.2; have HY := Lib.hid (And.intro (HF4.out.1.trans hg) (And.intro hy (HO4.out.gr hg))); have k0 := row_cell hn5 0 _ rfl; have k1 := row_cell hn5 1 _ rfl; have yy0 := row_cell hy 0 _ rfl; have yy1 := row_cell hy 1 _ rfl; have fyy0 := frozen_of_row _ _ 0 _ _ hy; have fyy1 := frozen_of_row _ _ 1 _ _ hy; clear hg hy hn5))
    refine bodyPost_ret (results_cell_tmp_row rfl _ _ (w.heap.size + 1) _ #[.bool true, .slice A xs.length cap] (0, 0) (.struct _) rfl (heap_setCell_same _ _ 1 _ _ (.slice A xs.length cap) (heap_setCell_same _ _ 0 _ _ (.bool true) HY.out.2.1)) Try.underlying32 rfl (by kernel_rfl)) rfl ⟨_, rfl, ⟨A, cap, rfl, (HY.out.2.2.ch (((Ch.refl (w.heap.size + 1) v5).setCell 0 (.bool true)).setCell 1 (.slice A xs.length cap)) (fun he => by have h1 := (HY.out.2.2.lt he).2; omega)).slice ceCell_len, HO.out.cap_le.1, HO.out.cap_le.2⟩, (((Ch.refl (w.heap.size + 1) v5).setCell 0 (.bool true)).setCell 1 (.slice A xs.length cap)).gr HY.out.1 (by omega)⟩
  · have heb : (be == 0) = false := by simp [he]
    have heb2 : (be != 0) = true := by simp [he]
    obtain rfl := hcs2 he
    simp only [List.length_nil] at *
    go_enter Try.func20, Try.ntmps20
    go_wp2_with (first
      | (go_at_call 57; refine (cB _).out.mono ?_; clear cB; rintro r v3 ⟨A, cap, rfl, ho, hg⟩; have hu := HU.out.2.2.2; rw [hu] at ho; have HO := Lib.hid ho; have HG3 := Lib.hid (HU.out.1.trans hg); have hy := (hg.block (lt_of_row HU.out.2.1)).trans HU.out.2.1; have hf3 := (hg.block (lt_of_row HU.out.2.2.1)).trans HU.out.2.2.1; have n0 := row_cell hf3 0 _ rfl; have n1 := row_cell hf3 1 _ rfl; have z1 := frozen_of_row _ _ 1 _ _ hf3; have y0 := row_cell hy 0 _ rfl; have y1 := row_cell hy 1 _ rfl; have fy0 := frozen_of_row _ _ 0 _ _ hy; have fy1 := frozen_of_row _ _ 1 _ _ hy; have HF3 := Lib.hid (And.intro hy hf3);  clear hg hf3 ho hu hy))
    refine bodyPost_ret (results_cell_tmp_row rfl _ _ (w.heap.size + 1) _ #[.bool false, .slice none 0 0] (0, 0) (.struct _) rfl (heap_setCell_same _ _ 1 _ _ (.slice none 0 0) (heap_setCell_same _ _ 0 _ _ (.bool false) HF3.out.1)) Try.underlying32 rfl (by kernel_rfl)) rfl ⟨.slice none 0 0, by rw [heb]; rfl, by rw [heb]; exact ⟨none, 0, rfl, .inl rfl, by simp, by decide⟩, (((Ch.refl (w.heap.size + 1) v3).setCell 0 (.bool false)).setCell 1 (.slice none 0 0)).gr HG3.out (by omega)⟩
theorem rf_ofK (n id tx : Nat) (hn : n < 65536) (D : List UInt8) (hD : D.length ≤ 8000) (w : World) :
    Calls Try.prog 20 #[.agg #[.int .u8 3, .int .u16 (n : Nat), .int .u32 (id : Nat), .int .u64 (tx : Nat), .string (B D)]] w fun r w' => ∃ b, r = .returned (.tuple #[.agg #[.bool false, b], .int .i64 (ofKe D n)]) ∧ RfAt w' false (.agg #[.bool false, b]) (ofKz D n) ∧ Gr w w' := by
  have cB := fun w1 => Lib.hid (ki_rread D hD n (by unfold I64; omega) w1)
  have hcs := rdAns_cases kiB kiCan keyBad (fun x : Ki => x.1) D (n : Int)
  change (∃ l : List Ki, kiAns D n = (l, 0) ∧ _) ∨ (∃ e, e ≠ 0 ∧ kiAns D n = ([], e)) at hcs
  have hcs2 : ((kiAns D n).2 ≠ 0 → (kiAns D n).1 = []) := by
    rcases hcs with ⟨l, h, h0, hL, _⟩ | ⟨e, he, h⟩
    · rw [h]; exact fun k => absurd rfl k
    · rw [h]; exact fun _ => rfl
  clear hcs
  have hz0 : ofP (kiAns D n).1 (kiAns D n).2 (ofKz D n) (ofKe D n) := by unfold ofKz ofKe; exact ofP_of _ _
  generalize ofKz D n = zz at *
  generalize ofKe D n = ze at *
  generalize kiAns D n = dd at *
  obtain ⟨xs, be⟩ := dd
  have HZ := Lib.hid hz0
  clear hz0
  simp only at cB hcs2
  have hw64 : IntKind.i64.wrap ((n : Nat) : Int) = ((n : Nat) : Int) := by rw [IntKind.wrap_i64]; omega
  obtain ⟨r0, r1, r2⟩ := heap_alloc3 w (.cells #[.int .u8 3, .int .u16 (n : Nat), .int .u32 (id : Nat), .int .u64 (tx : Nat), .string (B D)] 49) (.cells #[.bool false, .slice none 0 0] 32) (.cells #[.bool false, .slice none 0 0] 32)
  have HU : Hid (Gr w (((w.alloc (.cells #[.int .u8 3, .int .u16 (n : Nat), .int .u32 (id : Nat), .int .u64 (tx : Nat), .string (B D)] 49)).alloc (.cells #[.bool false, .slice none 0 0] 32)).alloc (.cells #[.bool false, .slice none 0 0] 32)) ∧ (((w.alloc (.cells #[.int .u8 3, .int .u16 (n : Nat), .int .u32 (id : Nat), .int .u64 (tx : Nat), .string (B D)] 49)).alloc (.cells #[.bool false, .slice none 0 0] 32)).alloc (.cells #[.bool false, .slice none 0 0] 32)).heap[w.heap.size + 1]? = some (.cells #[.bool false, .slice none 0 0] 32 (0, 0)) ∧ (((w.alloc (.cells #[.int .u8 3, .int .u16 (n : Nat), .int .u32 (id : Nat), .int .u64 (tx : Nat), .string (B D)] 49)).alloc (.cells #[.bool false, .slice none 0 0] 32)).alloc (.cells #[.bool false, .slice none 0 0] 32)).heap[w.heap.size + 1 + 1]? = some (.cells #[.bool false, .slice none 0 0] 32 (0, 0)) ∧ (((w.alloc (.cells #[.int .u8 3, .int .u16 (n : Nat), .int .u32 (id : Nat), .int .u64 (tx : Nat), .string (B D)] 49)).alloc (.cells #[.bool false, .slice none 0 0] 32)).alloc (.cells #[.bool false, .slice none 0 0] 32)).heap.size = w.heap.size + 3) := ⟨(((Gr.refl w).alloc _).alloc _).alloc _, r1, r2, by simp only [alloc_size]⟩
  clear r0 r1 r2
  by_cases he : be = 0
  · subst he
    by_cases hR0 : (xs.map ceOf ≠ [] ∧ hdC0 (xs.map ceOf) = .empty ∧ ∀ z ∈ xs.map ceOf, 2 ≤ z.2.2.1)
    · have HE := (HZ.out.2 rfl).1 ((nsRight_kids xs).1 (.inr hR0))
      have hR := Lib.hid hR0
      obtain ⟨HE1, HE2⟩ := HE
      subst HE1 HE2
      clear HZ hR0
      go_enter Try.func20, Try.ntmps20
      go_wp2_with (first
        | (go_at_call 57; refine (cB _).out.mono ?_; clear cB; rintro r v3 ⟨A, cap, rfl, ho, hg⟩; have hu := HU.out.2.2.2; rw [hu] at ho; have HO := Lib.hid ho; have HG3 := Lib.hid (HU.out.1.trans hg); have hy := (hg.block (lt_of_row HU.out.2.1)).trans HU.out.2.1; have hf3 := (hg.block (lt_of_row HU.out.2.2.1)).trans HU.out.2.2.1; have n0 := row_cell hf3 0 _ rfl; have n1 := row_cell hf3 1 _ rfl; have z1 := frozen_of_row _ _ 1 _ _ hf3; have y0 := row_cell hy 0 _ rfl; have y1 := row_cell hy 1 _ rfl; have fy0 := frozen_of_row _ _ 0 _ _ hy; have fy1 := frozen_of_row _ _ 1 _ _ hy; have HF3 := Lib.hid (And.intro hy hf3); have hno : ownOf A ≠ some (w.heap.size + 1 + 1) := (fun he => by have h1 := (HO.out.lt he).2; omega); have hf4 := heap_setCell_same _ _ 1 _ _ (.slice A xs.length cap) hf3; have hy4 := (heap_setCell_other v3 ⟨w.heap.size + 1 + 1, 1, none⟩ (w.heap.size + 1) (.slice A xs.length cap) (by show w.heap.size + 1 ≠ w.heap.size + 1 + 1; omega)).trans hy; have HO4 : Hid (Own (v3.setCell ⟨w.heap.size + 1 + 1, 1, none⟩ (.slice A xs.length cap)) (w.heap.size + 3) 59 4 (fun x : Ki => ceCell (ceOf x)) A cap xs) := ho.ch ((Ch.refl (w.heap.size + 1 + 1) v3).setCell 1 (.slice A xs.length cap)) hno; have m0 := row_cell hf4 0 _ rfl; have m1 := row_cell hf4 1 _ rfl; have HF4 := Lib.hid (And.intro (((Ch.refl (w.heap.size + 1 + 1) v3).setCell 1 (.slice A xs.length cap)).gr HG3.out (by omega)) (And.intro hy4 hf4)); clear hf4 hy4 hno; clear hg hf3 ho hu hy)
        | (go_at_call 53; refine (rf_rightK _ (xs.map ceOf) _ (show RfAt _ false (.agg #[.bool false, .slice A xs.length cap]) (xs.map ceOf) from ⟨A, cap, by rw [List.length_map], (kislice ((HO4.out).slice (fun x => rfl))), by rw [List.length_map]; exact HO.out.cap_le.1, HO.out.cap_le.2⟩) true ⟨fun _ => hR.out, fun _ => rfl⟩).mono ?_; rintro r v5 ⟨rfl, hg⟩; have hy := (hg.block (lt_of_row HF4.out.2.1)).trans HF4.out.2.1; have hn5 := (hg.block (lt_of_row HF4.out.2.2)).trans HF4.out.2.2; have HY := Lib.hid (And.intro (HF4.out.1.trans hg) (And.intro hy (HO4.out.gr hg))); have k0 := row_cell hn5 0 _ rfl; have k1 := row_cell hn5 1 _ rfl; have yy0 := row_cell hy 0 _ rfl; have yy1 := row_cell hy 1 _ rfl; have fyy0 := frozen_of_row _ _ 0 _ _ hy; have fyy1 := frozen_of_row _ _ 1 _ _ hy; clear hg hy hn5))
      refine bodyPost_ret (results_cell_tmp_row rfl _ _ (w.heap.size + 1) _ #[.bool false, .slice A xs.length cap] (0, 0) (.struct _) rfl (heap_setCell_same _ _ 1 _ _ (.slice A xs.length cap) (heap_setCell_same _ _ 0 _ _ (.bool false) HY.out.2.1)) Try.underlying32 rfl (by kernel_rfl)) rfl ⟨_, rfl, ⟨A, cap, by rw [List.length_map], (kislice ((HY.out.2.2.ch (((Ch.refl (w.heap.size + 1) v5).setCell 0 (.bool false)).setCell 1 (.slice A xs.length cap)) (fun he => by have h1 := (HY.out.2.2.lt he).2; omega)).slice (fun x => rfl))), by rw [List.length_map]; exact HO.out.cap_le.1, HO.out.cap_le.2⟩, (((Ch.refl (w.heap.size + 1) v5).setCell 0 (.bool false)).setCell 1 (.slice A xs.length cap)).gr HY.out.1 (by omega)⟩
    · have HE := (HZ.out.2 rfl).2 (fun k => hR0 (((nsRight_kids xs).2 k).elim (fun h => by cases h) (fun h => h)))
      have hR := Lib.hid hR0
      obtain ⟨HE1, HE2⟩ := HE
      subst HE1 HE2
      clear HZ hR0
      go_enter Try.func20, Try.ntmps20
      go_wp2_with (first
        | (go_at_call 57; refine (cB _).out.mono ?_; clear cB; rintro r v3 ⟨A, cap, rfl, ho, hg⟩; have hu := HU.out.2.2.2; rw [hu] at ho; have HO := Lib.hid ho; have HG3 := Lib.hid (HU.out.1.trans hg); have hy := (hg.block (lt_of_row HU.out.2.1)).trans HU.out.2.1; have hf3 := (hg.block (lt_of_row HU.out.2.2.1)).trans HU.out.2.2.1; have n0 := row_cell hf3 0 _ rfl; have n1 := row_cell hf3 1 _ rfl; have z1 := frozen_of_row _ _ 1 _ _ hf3; have y0 := row_cell hy 0 _ rfl; have y1 := row_cell hy 1 _ rfl; have fy0 := frozen_of_row _ _ 0 _ _ hy; have fy1 := frozen_of_row _ _ 1 _ _ hy; have HF3 := Lib.hid (And.intro hy hf3); have hno : ownOf A ≠ some (w.heap.size + 1 + 1) := (fun he => by have h1 := (HO.out.lt he).2; omega); have hf4 := heap_setCell_same _ _ 1 _ _ (.slice A xs.length cap) hf3; have hy4 := (heap_setCell_other v3 ⟨w.heap.size + 1 + 1, 1, none⟩ (w.heap.size + 1) (.slice A xs.length cap) (by show w.heap.size + 1 ≠ w.heap.size + 1 + 1; omega)).trans hy; have HO4 : Hid (Own (v3.setCell ⟨w.heap.size + 1 + 1, 1, none⟩ (.slice A xs.length cap)) (w.heap.size + 3) 59 4 (fun x : Ki => ceCell (ceOf x)) A cap xs) := ho.ch ((Ch.refl (w.heap.size + 1 + 1) v3).setCell 1 (.slice A xs.length cap)) hno; have m0 := row_cell hf4 0 _ rfl; have m1 := row_cell hf4 1 _ rfl; have HF4 := Lib.hid (And.intro (((Ch.refl (w.heap.size + 1 + 1) v3).setCell 1 (.slice A xs.length cap)).gr HG3.out (by omega)) (And.intro hy4 hf4)); clear hf4 hy4 hno; clear hg hf3 ho hu hy)
        | (go_at_call 53; refine (rf_rightK _ (xs.map ceOf) _ (show RfAt _ false (.agg #[.bool false, .slice A xs.length cap]) (xs.map ceOf) from ⟨A, cap, by rw [List.length_map], (kislice ((HO4.out).slice (fun x => rfl))), by rw [List.length_map]; exact HO.out.cap_le.1, HO.out.cap_le.2⟩) false ⟨fun h => (by cases h), fun h => absurd h hR.out⟩).mono ?_; rintro r v5 ⟨rfl, hg⟩; have hy := (hg.block (lt_of_row HF4.out.2.1)).trans HF4.out.2.1; have hn5 := (hg.block (lt_of_row HF4.out.2.2)).trans HF4.out.2.2; have HY := Lib.hid (And.intro (HF4.out.1.trans hg) (And.intro hy (HO4.out.gr hg))); have k0 := row_cell hn5 0 _ rfl; have k1 := row_cell hn5 1 _ rfl; have yy0 := row_cell hy 0 _ rfl; have yy1 := row_cell hy 1 _ rfl; have fyy0 := frozen_of_row _ _ 0 _ _ hy; have fyy1 := frozen_of_row _ _ 1 _ _ hy; clear hg hy hn5))
      refine bodyPost_ret (results_cell_tmp_row rfl _ _ (w.heap.size + 1) _ #[.bool false, .slice none 0 0] (0, 0) (.struct _) rfl (heap_setCell_same _ _ 1 _ _ (.slice none 0 0) (heap_setCell_same _ _ 0 _ _ (.bool false) HY.out.2.1)) Try.underlying32 rfl (by kernel_rfl)) rfl ⟨_, rfl, ⟨none, 0, rfl, .inl rfl, by simp, by decide⟩, (((Ch.refl (w.heap.size + 1) v5).setCell 0 (.bool false)).setCell 1 (.slice none 0 0)).gr HY.out.1 (by omega)⟩
  · have heb : (be == 0) = false := by simp [he]
    have heb2 : (be != 0) = true := by simp [he]
    obtain rfl := hcs2 he
    have HE := HZ.out.1 he
    obtain ⟨HE1, HE2⟩ := HE
    subst HE1 HE2
    clear HZ
    simp only [List.length_nil] at *
    go_enter Try.func20, Try.ntmps20
    go_wp2_with (first
      | (go_at_call 57; refine (cB _).out.mono ?_; clear cB; rintro r v3 ⟨A, cap, rfl, ho, hg⟩; have hu := HU.out.2.2.2; rw [hu] at ho; have HO := Lib.hid ho; have HG3 := Lib.hid (HU.out.1.trans hg); have hy := (hg.block (lt_of_row HU.out.2.1)).trans HU.out.2.1; have hf3 := (hg.block (lt_of_row HU.out.2.2.1)).trans HU.out.2.2.1; have n0 := row_cell hf3 0 _ rfl; have n1 := row_cell hf3 1 _ rfl; have z1 := frozen_of_row _ _ 1 _ _ hf3; have y0 := row_cell hy 0 _ rfl; have y1 := row_cell hy 1 _ rfl; have fy0 := frozen_of_row _ _ 0 _ _ hy; have fy1 := frozen_of_row _ _ 1 _ _ hy; have HF3 := Lib.hid (And.intro hy hf3);  clear hg hf3 ho hu hy))
    refine bodyPost_ret (results_cell_tmp_row rfl _ _ (w.heap.size + 1) _ #[.bool false, .slice none 0 0] (0, 0) (.struct _) rfl (heap_setCell_same _ _ 1 _ _ (.slice none 0 0) (heap_setCell_same _ _ 0 _ _ (.bool false) HF3.out.1)) Try.underlying32 rfl (by kernel_rfl)) rfl ⟨_, rfl, ⟨none, 0, rfl, .inl rfl, by simp, by decide⟩, (((Ch.refl (w.heap.size + 1) v3).setCell 0 (.bool false)).setCell 1 (.slice none 0 0)).gr HG3.out (by omega)⟩
end Go.Proofs.Ytmpmfgkabjedpaa
namespace Go.Proofs.Ytmpmfgkabjedpaa
open Go.RowKit
set_option linter.unusedVariables false
set_option linter.unusedSimpArgs false
set_option maxRecDepth 100000
set_option maxHeartbeats 2000000
noncomputable def ofL (kind : Nat) (D : List UInt8) (n : Nat) : Bool := if kind = 2 then (lfAns D n).2 == 0 else false
noncomputable def ofZ (kind : Nat) (D : List UInt8) (n : Nat) : List Ce := if kind = 2 then (lfAns D n).1 else if kind = 3 then ofKz D n else []
noncomputable def ofE (kind : Nat) (D : List UInt8) (n : Nat) : Int := if kind = 2 then (lfAns D n).2 else if kind = 3 then ofKe D n else 11
theorem nd_ofN (kind n id tx : Nat) (h2 : kind ≠ 2) (h3 : kind ≠ 3) (D : List UInt8) (w : World) :
    Calls Try.prog 19 #[.agg #[.int .u8 (kind : Nat), .int .u16 (n : Nat), .int .u32 (id : Nat), .int .u64 (tx : Nat), .string (B D)]] w fun r w' => r = .returned (.tuple #[.agg #[.bool false, .slice none 0 0, .slice none 0 0], .int .i64 11]) ∧ Gr w w' := by
  have e2 : ((kind : Nat) : Int) ≠ 2 := by omega
  have e3 : ((kind : Nat) : Int) ≠ 3 := by omega
  obtain ⟨r0, r1, r2⟩ := heap_alloc3 w (.cells #[.int .u8 (kind : Nat), .int .u16 (n : Nat), .int .u32 (id : Nat), .int .u64 (tx : Nat), .string (B D)] 45) (.cells #[.bool false, .slice none 0 0, .slice none 0 0] 27) (.cells #[.bool false, .slice none 0 0, .slice none 0 0] 27)
  have HW : Hid (Gr w (((w.alloc (.cells #[.int .u8 (kind : Nat), .int .u16 (n : Nat), .int .u32 (id : Nat), .int .u64 (tx : Nat), .string (B D)] 45)).alloc (.cells #[.bool false, .slice none 0 0, .slice none 0 0] 27)).alloc (.cells #[.bool false, .slice none 0 0, .slice none 0 0] 27))) := (((Gr.refl w).alloc _).alloc _).alloc _
  have HR := Lib.hid r1
  have y0 := row_cell r1 0 _ rfl
  have y1 := row_cell r1 1 _ rfl
  have y2 := row_cell r1 2 _ rfl
  have fy0 := frozen_of_row _ _ 0 _ _ r1
  have fy1 := frozen_of_row _ _ 1 _ _ r1
  have fy2 := frozen_of_row _ _ 2 _ _ r1
  clear r0 r1 r2
  go_enter Try.func19, Try.ntmps19
  go_wp2
  refine bodyPost_ret (results_cell_tmp_row rfl _ _ (w.heap.size + 1) _ #[.bool false, .slice none 0 0, .slice none 0 0] (0, 0) (.struct _) rfl HR.out Try.underlying27 rfl (by kernel_rfl)) rfl ⟨rfl, HW.out⟩
theorem rf_ofN (kind n id tx : Nat) (h2 : kind ≠ 2) (h3 : kind ≠ 3) (D : List UInt8) (w : World) :
    Calls Try.prog 20 #[.agg #[.int .u8 (kind : Nat), .int .u16 (n : Nat), .int .u32 (id : Nat), .int .u64 (tx : Nat), .string (B D)]] w fun r w' => r = .returned (.tuple #[.agg #[.bool false, .slice none 0 0], .int .i64 11]) ∧ Gr w w' := by
  have e2 : ((kind : Nat) : Int) ≠ 2 := by omega
  have e3 : ((kind : Nat) : Int) ≠ 3 := by omega
  have b2 : (((kind : Nat) : Int) != 2) = true := by simpa using e2
  have b3 : (((kind : Nat) : Int) != 3) = true := by simpa using e3
  have r1 := heap_alloc_last (w.alloc (.cells #[.int .u8 (kind : Nat), .int .u16 (n : Nat), .int .u32 (id : Nat), .int .u64 (tx : Nat), .string (B D)] 49)) (.cells #[.bool false, .slice none 0 0] 32)
  rw [alloc_size] at r1
  have HW : Hid (Gr w ((w.alloc (.cells #[.int .u8 (kind : Nat), .int .u16 (n : Nat), .int .u32 (id : Nat), .int .u64 (tx : Nat), .string (B D)] 49)).alloc (.cells #[.bool false, .slice none 0 0] 32))) := ((Gr.refl w).alloc _).alloc _
  have HR := Lib.hid r1
  have y0 := row_cell r1 0 _ rfl
  have y1 := row_cell r1 1 _ rfl
  have fy0 := frozen_of_row _ _ 0 _ _ r1
  have fy1 := frozen_of_row _ _ 1 _ _ r1
  clear r1
  go_enter Try.func20, Try.ntmps20
  go_wp2
  refine bodyPost_ret (results_cell_tmp_row rfl _ _ (w.heap.size + 1) _ #[.bool false, .slice none 0 0] (0, 0) (.struct _) rfl HR.out Try.underlying32 rfl (by kernel_rfl)) rfl ⟨rfl, HW.out⟩
theorem ns_of0 (kind n id tx : Nat) (hn : n < 65536) (D : List UInt8) (hD : D.length ≤ 8000) (w : World) :
    Calls Try.prog 19 #[.agg #[.int .u8 (kind : Nat), .int .u16 (n : Nat), .int .u32 (id : Nat), .int .u64 (tx : Nat), .string (B D)]] w fun r w' => ∃ b c, r = .returned (.tuple #[.agg #[.bool (ofL kind D n), b, c], .int .i64 (ofE kind D n)]) ∧ NsAt w' (.agg #[.bool (ofL kind D n), b, c]) (ofL kind D n) (ofZ kind D n) ∧ Gr w w' := by
  unfold ofL ofZ ofE
  by_cases h2 : kind = 2
  · subst h2
    rw [if_pos rfl, if_pos rfl, if_pos rfl]
    exact lf_of n id tx hn D hD w
  · by_cases h3 : kind = 3
    · subst h3
      rw [if_neg h2, if_neg h2, if_neg h2, if_pos rfl, if_pos rfl]
      exact ki_of n id tx hn D hD w
    · rw [if_neg h2, if_neg h2, if_neg h2, if_neg h3, if_neg h3]
      refine (nd_ofN kind n id tx h2 h3 D w).mono ?_
      rintro r w' ⟨rfl, hg⟩
      exact ⟨_, _, rfl, .inr ⟨rfl, [], rfl, none, 0, rfl, .inl rfl, by simp, by decide⟩, hg⟩
theorem rs_of0 (kind n id tx : Nat) (hn : n < 65536) (D : List UInt8) (hD : D.length ≤ 8000) (w : World) :
    Calls Try.prog 20 #[.agg #[.int .u8 (kind : Nat), .int .u16 (n : Nat), .int .u32 (id : Nat), .int .u64 (tx : Nat), .string (B D)]] w fun r w' => ∃ b, r = .returned (.tuple #[.agg #[.bool (ofL kind D n), b], .int .i64 (ofE kind D n)]) ∧ RfAt w' (ofL kind D n) (.agg #[.bool (ofL kind D n), b]) (ofZ kind D n) ∧ Gr w w' := by
  unfold ofL ofZ ofE
  by_cases h2 : kind = 2
  · subst h2
    rw [if_pos rfl, if_pos rfl, if_pos rfl]
    exact rf_ofL n id tx hn D hD w
  · by_cases h3 : kind = 3
    · subst h3
      rw [if_neg h2, if_neg h2, if_neg h2, if_pos rfl, if_pos rfl]
      exact rf_ofK n id tx hn D hD w
    · rw [if_neg h2, if_neg h2, if_neg h2, if_neg h3, if_neg h3]
      refine (rf_ofN kind n id tx h2 h3 D w).mono ?_
      rintro r w' ⟨rfl, hg⟩
      exact ⟨_, rfl, ⟨none, 0, rfl, .inl rfl, by simp, by decide⟩, hg⟩
theorem NsAt.agg2 {w : World} {v : Value} {leaf : Bool} {zs : List Ce} (h : NsAt w v leaf zs) : ∃ A l c A2 l2 c2, v = .agg #[.bool leaf, .slice A l c, .slice A2 l2 c2] := by
  rcases h with ⟨rfl, A, cap, rfl, _⟩ | ⟨rfl, ys, hz, A, cap, rfl, _⟩
  · exact ⟨_, _, _, _, _, _, rfl⟩
  · exact ⟨_, _, _, _, _, _, rfl⟩
theorem RfAt.agg2 {w : World} {v : Value} {leaf : Bool} {zs : List Ce} (h : RfAt w leaf v zs) : ∃ A l c, v = .agg #[.bool leaf, .slice A l c] := by
  obtain ⟨A, cap, rfl, _⟩ := h
  exact ⟨_, _, _, rfl⟩
theorem ns_of (kind n id tx : Nat) (hn : n < 65536) (D : List UInt8) (hD : D.length ≤ 8000) (w : World) :
    Calls Try.prog 19 #[.agg #[.int .u8 (kind : Nat), .int .u16 (n : Nat), .int .u32 (id : Nat), .int .u64 (tx : Nat), .string (B D)]] w fun r w' => ∃ A l c A2 l2 c2, r = .returned (.tuple #[.agg #[.bool (ofL kind D n), .slice A l c, .slice A2 l2 c2], .int .i64 (ofE kind D n)]) ∧ NsAt w' (.agg #[.bool (ofL kind D n), .slice A l c, .slice A2 l2 c2]) (ofL kind D n) (ofZ kind D n) ∧ Gr w w' := by
  refine (ns_of0 kind n id tx hn D hD w).mono ?_
  rintro r w' ⟨b, c, rfl, h, hg⟩
  obtain ⟨A, l, c, A2, l2, c2, he⟩ := h.agg2
  rw [he] at h ⊢
  exact ⟨A, l, c, A2, l2, c2, rfl, h, hg⟩
theorem rs_of (kind n id tx : Nat) (hn : n < 65536) (D : List UInt8) (hD : D.length ≤ 8000) (w : World) :
    Calls Try.prog 20 #[.agg #[.int .u8 (kind : Nat), .int .u16 (n : Nat), .int .u32 (id : Nat), .int .u64 (tx : Nat), .string (B D)]] w fun r w' => ∃ A l c, r = .returned (.tuple #[.agg #[.bool (ofL kind D n), .slice A l c], .int .i64 (ofE kind D n)]) ∧ RfAt w' (ofL kind D n) (.agg #[.bool (ofL kind D n), .slice A l c]) (ofZ kind D n) ∧ Gr w w' := by
  refine (rs_of0 kind n id tx hn D hD w).mono ?_
  rintro r w' ⟨b, rfl, h, hg⟩
  obtain ⟨A, l, c, he⟩ := h.agg2
  rw [he] at h ⊢
  exact ⟨A, l, c, rfl, h, hg⟩
theorem ofZ_len (kind : Nat) (n : Nat) (D : List UInt8) (hD : D.length ≤ 8000) : (ofZ kind D n).length ≤ 4000 := by
  have key : ∀ {α : Type} (byt : α → ByteArray) (can : α → Prop) (bad : α → Bool) (key : α → ByteArray), (rdAns byt can bad key D (n : Int)).1.length ≤ 4000 := by
    intro α byt can bad key
    rcases rdAns_cases byt can bad key D (n : Int) with ⟨l, h, h0, hL, _⟩ | ⟨e, he, h⟩
    · rw [h]
      have h1 := hL.len
      have h2 := hL.1
      simp only [Int.toNat_natCast] at h1 h2
      show l.length ≤ 4000
      omega
    · rw [h]; simp
  unfold ofZ
  split
  · exact key _ _ _ _
  · split
    · unfold ofKz
      split
      · simp
      · rw [List.length_map]; exact key _ _ _ _
    · simp
theorem ns_fromA (leaf : Bool) (A : Option Addr) (cap : Nat) (xs : List Ce) (hcap : xs.length ≤ cap) (hcm : cap ≤ maxLen) (hl : xs.length ≤ 4000) (w : World) (hs : SliceAt w A 4 ceCell xs) :
    Calls Try.prog 9 #[.bool leaf, .slice A xs.length cap] w fun r w' => ∃ A l c A2 l2 c2, r = .returned (.agg #[.bool leaf, .slice A l c, .slice A2 l2 c2]) ∧ NsAt w' (.agg #[.bool leaf, .slice A l c, .slice A2 l2 c2]) leaf (nsC leaf xs) ∧ Gr w w' := by
  refine (ns_from leaf A cap xs hcap hcm hl w hs).mono ?_
  rintro r w' ⟨v, rfl, h, hg⟩
  obtain ⟨A, l, c, A2, l2, c2, rfl⟩ := h.agg2
  exact ⟨A, l, c, A2, l2, c2, rfl, h, hg⟩
theorem ns_toA (leaf : Bool) (v : Value) (zs : List Ce) (hl : zs.length ≤ 4000) (w : World) (h : NsAt w v leaf zs) :
    Calls Try.prog 11 #[v] w fun r w' => ∃ A l c, r = .returned (.agg #[.bool leaf, .slice A l c]) ∧ RfAt w' leaf (.agg #[.bool leaf, .slice A l c]) zs ∧ Gr w w' := by
  refine (ns_to leaf v zs hl w h).mono ?_
  rintro r w' ⟨v, rfl, h, hg⟩
  obtain ⟨A, l, c, rfl⟩ := h.agg2
  exact ⟨A, l, c, rfl, h, hg⟩
end Go.Proofs.Ytmpmfgkabjedpaa
namespace Go.Proofs.Ytmpmfgkabjedpaa
open Go.RowKit
set_option linter.unusedVariables false
set_option linter.unusedSimpArgs false
set_option maxRecDepth 100000
set_option maxHeartbeats 4000000
theorem lf_zval (w : World) : (zeroValue 59).run Try.prog w = .ok (.agg #[.string { data := #[] }, .string { data := #[] }, .int .u32 0, .int .u32 0]) w := by kernel_rfl
theorem lf_zone (n : Nat) : ∀ v ∈ (Builtin.zeroCells (Value.cells (.agg #[.string { data := #[] }, .string { data := #[] }, .int .u32 0, .int .u32 0])) n).toList, v.oneCell' = true := by
  intro v hv
  rw [Builtin.zeroCells, Array.toList_map] at hv
  obtain ⟨i, _, rfl⟩ := List.mem_map.1 hv
  have e : (Value.cells (.agg #[.string { data := #[] }, .string { data := #[] }, .int .u32 0, .int .u32 0])) = (#[.string { data := #[] }, .string { data := #[] }, .int .u32 0, .int .u32 0] : Array Value) := rfl
  rw [e]
  have hs : (#[.string { data := #[] }, .string { data := #[] }, .int .u32 0, .int .u32 0] : Array Value).size = 4 := rfl
  rw [hs]
  have hi : i % 4 < 4 := Nat.mod_lt _ (by decide)
  generalize i % 4 = q at hi
  have : ∀ q, q < 4 → ((#[.string { data := #[] }, .string { data := #[] }, .int .u32 0, .int .u32 0] : Array Value)[q]!).oneCell' = true := by decide
  exact this q hi
theorem lf_delete (g cap : Nat) (xs : List Ce) (i j : Nat) (hi : i < xs.length) (hj : j = i + 1) (base : Nat) (w : World) (h : Own w base 59 4 ceCell (some ⟨g, 0, none⟩) cap xs) :
    Calls Try.prog 61 #[.slice (some ⟨g, 0, none⟩) xs.length cap, .int .i64 (i : Nat), .int .i64 (j : Nat)] w fun r w' => r = .returned (.slice (some ⟨g, 0, none⟩) (xs.eraseIdx i).length cap) ∧ Own w' base 59 4 ceCell (some ⟨g, 0, none⟩) cap (xs.eraseIdx i) ∧ Ch g w w' := by
  obtain ⟨ii, hii, hz0, hz1, hz2⟩ := info_parts sl_info_ce
  obtain ⟨cur, hh, hb, hn, hc, hz, hx⟩ := h.rowOf
  have HOWN := Lib.hid h
  have hsome : ∀ t, t < cap * 4 → (w.cell? ⟨g, t, none⟩).isSome = true := fun t ht => by
    rw [cell_of_row _ _ _ _ _ _ hh, Array.getElem?_eq_getElem (by omega)]; rfl
  have hfz : ∀ t, w.frozen? ⟨g, t, none⟩ = false := fun t => frozen_of_row _ _ t _ _ hh
  obtain ⟨news, hnews⟩ : ∃ news, news = (xs.drop (i + 1)).flatMap ceCell := ⟨_, rfl⟩
  have hlen : news.length = (xs.length - j) * 4 := by rw [hnews, cells_len 4 ceCell_len, List.length_drop, hj]
  have hget : ∀ t u, news[t]? = some u → w.cell? ⟨g, j * 4 + t, none⟩ = some u := by
    intro t u hu
    have ht : t < news.length := by
      rcases Nat.lt_or_ge t news.length with h | h
      · exact h
      · rw [List.getElem?_eq_none h] at hu; cases hu
    have e : news = (cur.toList.take (xs.length * 4)).drop (j * 4) := by rw [hx, drop_flat ceCell_len, hnews, hj]
    rw [e, List.getElem?_drop, List.getElem?_take] at hu
    split at hu
    · rw [cell_of_row _ _ _ _ _ _ hh]; simpa using hu
    · cases hu
  have hHW : Hid (∀ w1, Ch g w w1 → True) := fun _ _ => trivial
  obtain ⟨A, hA, hsrc⟩ : ∃ A : Addr, (if cap = j then some (⟨g, 0, none⟩ : Addr) else some ⟨g, j * 4, none⟩) = some A ∧ Hid (∀ t u, news[t]? = some u → w.drew.cell? (A.add t) = some u) := by
    by_cases h : cap = j
    · refine ⟨⟨g, 0, none⟩, by simp [h], fun t u hu => ?_⟩
      have h0 : news.length = 0 := by rw [hlen]; omega
      rw [List.length_eq_zero_iff.1 h0] at hu
      simp at hu
    · refine ⟨⟨g, j * 4, none⟩, by simp [h], fun t u hu => ?_⟩
      have hadd : (⟨g, j * 4, none⟩ : Addr).add t = ⟨g, j * 4 + t, none⟩ := by unfold Addr.add; split <;> simp_all
      rw [hadd]
      exact hget t u hu
  have s2 : Hid (∀ u ∈ news, u.oneCell' = true) := by rw [hnews]; exact cells_one ceCell_one _
  have s1 : Hid (news.length = (xs.length - j) * 4) := hlen
  have s3 : Hid (∀ t, t < news.length → (w.drew.cell? ⟨g, 0 + i * 4 + t, none⟩).isSome = true ∧ w.drew.frozen? ⟨g, 0 + i * 4 + t, none⟩ = false) := by
    intro t ht
    rw [hlen] at ht
    exact ⟨hsome _ (by omega), hfz _⟩
  obtain ⟨W1, hW1⟩ : ∃ W1, W1 = w.drew.setCells g (0 + i * 4) news := ⟨_, rfl⟩
  have hl2 : i + (xs.length - j) = xs.length - 1 := by omega
  have hcl : ∀ ty c, (Builtin.clear_ #[22] ty #[.slice (some ⟨g, (i + (xs.length - j)) * 4, none⟩) (xs.length - (i + (xs.length - j))) c]).run Try.prog W1 = .ok (.tuple #[]) (W1.setCells g ((i + (xs.length - j)) * 4) (Builtin.zeroCells (Value.cells (.agg #[.string { data := #[] }, .string { data := #[] }, .int .u32 0, .int .u32 0])) (xs.length - (i + (xs.length - j)))).toList) := by
    intro ty c
    obtain ⟨c1, g1, s1, t1⟩ := setCells_row news (0 + i * 4) w.drew cur hh (by rw [hlen, hz]; omega)
    rw [← hW1] at g1
    exact run_clear_k W1 _ _ ty _ 4 Try.underlying22 lf_zval rfl g _ _ c (by omega) (lf_zone _) (fun t ht => by rw [cell_of_row _ _ _ _ _ _ g1, Array.getElem?_eq_getElem (by rw [s1, hz]; omega)]; rfl) (fun t ht => frozen_of_row _ _ _ _ _ g1)
  have HE : Hid (Own (W1.setCells g ((i + (xs.length - j)) * 4) (Builtin.zeroCells (Value.cells (.agg #[.string { data := #[] }, .string { data := #[] }, .int .u32 0, .int .u32 0])) (xs.length - (i + (xs.length - j)))).toList) base 59 4 ceCell (some ⟨g, 0, none⟩) cap (xs.eraseIdx i) ∧ Ch g w (W1.setCells g ((i + (xs.length - j)) * 4) (Builtin.zeroCells (Value.cells (.agg #[.string { data := #[] }, .string { data := #[] }, .int .u32 0, .int .u32 0])) (xs.length - (i + (xs.length - j)))).toList)) := by
    have e1 : xs.length - (i + (xs.length - j)) = 1 := by omega
    rw [e1, hl2, hW1, hnews]
    simp only [Nat.zero_add]
    refine ⟨(h.gr (Gr.refl w).drew).erase ceCell_len i hi _ (by rw [zeroCells_length]; rfl), ?_⟩
    exact Ch.setCells (Ch.setCells (Ch.refl g w).drew _ _) _ _
  have HL : Hid ((xs.eraseIdx i).length = i + (xs.length - j)) := by unfold Hid; rw [List.length_eraseIdx, if_pos hi]; omega
  have hij : ¬ ((i : Nat) : Int) = ((j : Nat) : Int) := by omega
  have hW : Hid (W1 = w.drew.setCells g (0 + i * 4) news) := hW1
  have hic : i ≤ cap := by omega
  have hnc : xs.length ≤ cap := by omega
  have hjc : j ≤ cap := by omega
  have hjn : j ≤ xs.length := by omega
  have hcc : cap ≤ 9223372036854775807 := by unfold maxLen at hc; omega
  have hij2 : i ≤ j := by omega
  have HR : Hid (i + (xs.length - j) ≤ cap) := by unfold Hid; omega
  clear hW1 hget hnews hlen hx hz hh hsome hfz h hb hHW hj hi hn hl2 hc
  rw [HL.out]
  generalize xs.eraseIdx i = ys at *
  generalize hnn : xs.length = n at *
  clear hnn HOWN
  have mixed : Try.prog.follows Departure.mixedOrders = true := by kernel_rfl
  go_enter Try.func61, Try.ntmps61
  go_wp2_with fail
  go_region_law_o (refine step_append_room rfl _ _ 22 rfl 59 ii 4 Try.underlying22 hii hz1 g 0 i cap (by simp [Act.eval, Act.put]) A (n - j) (cap - j) news (by simp [Act.eval, Act.put]) s1.out hsrc.out s2.out (by omega) s3.out ?_; rw [← hW.out])
  go_wp2
  go_ret
  exact ⟨rfl, HE.out.1, HE.out.2⟩
end Go.Proofs.Ytmpmfgkabjedpaa
