/- Layer 6: a branch: a body read (printed by slread_gen.py). -/
import Derived.Test.YtmpmfgkabjedpaaMgDo06
import Derived.Test.YtmpmfgkabjedpaaMgDo23
namespace Go.Proofs.Ytmpmfgkabjedpaa
open Go.RowKit
set_option linter.unusedVariables false
set_option linter.unusedSimpArgs false
set_option maxRecDepth 100000
set_option maxHeartbeats 4000000
noncomputable def kiAns (D : List UInt8) (count : Int) : List Ki × Int := rdAns kiB kiCan keyBad (fun x => x.1) D count
theorem ki_infor : (Try.prog.info? 61).map (fun i => (i.zero, i.size, i.bytes)) = some (some (.agg #[.string { data := #[] }, .int .u32 0]), 2, 24) := by kernel_rfl
theorem ki_read (D : List UInt8) (hD : D.length ≤ 8000) (count : Int) (hc64 : I64 count) (w : World) :
    Calls Try.prog 56 #[.agg #[.func (.func 73) #[] #[], .func (.func 76) #[] #[], .func (.func 79) #[] #[], .nilFunc], .string (B D), .int .i64 count] w fun r w' => ∃ A cap, r = .returned (.tuple #[.slice A (kiAns D count).1.length cap, .int .i64 (kiAns D count).2]) ∧ Own w' w.heap.size 61 2 kiCell A cap (kiAns D count).1 ∧ Gr w w' := by
  have cN := fun w1 => Lib.hid (ki_none w1)
  have HW : Hid (Gr w (w.alloc (.cells #[.func (.func 73) #[] #[], .func (.func 76) #[] #[], .func (.func 79) #[] #[], .nilFunc] 87)) ∧ (w.alloc (.cells #[.func (.func 73) #[] #[], .func (.func 76) #[] #[], .func (.func 79) #[] #[], .nilFunc] 87)).heap[w.heap.size]? = some (.cells #[.func (.func 73) #[] #[], .func (.func 76) #[] #[], .func (.func 79) #[] #[], .nilFunc] 87 (0, 0))) := ⟨(Gr.refl w).alloc _, heap_alloc_last w _⟩
  have hBs : (B D).size = D.length := B_size D
  unfold I64 at hc64
  by_cases hneg : count < 0
  · have HA : Hid (kiAns D count = ([], 4)) := rdAns_neg hneg
    generalize kiAns D count = ans at *
    obtain rfl := HA.out
    go_enter Try.func56, Try.ntmps56
    go_wp2_with (go_at_call 92; refine (cN _).out.mono ?_; clear cN; rintro r v1 ⟨rfl, hg⟩; have HV := Lib.hid (HW.out.1.trans hg); clear hg)
    go_ret2
    exact ⟨none, 0, rfl, Own.nil _ _ _ _ _, HV.out⟩
  obtain ⟨n, rfl⟩ : ∃ n : Nat, count = n := ⟨count.toNat, by omega⟩
  by_cases hn : 2 * n ≤ D.length
  case neg =>
    have HA : Hid (kiAns D n = ([], 4)) := rdAns_none fun L hL => hn hL.len
    generalize kiAns D n = ans at *
    obtain rfl := HA.out
    have hq : ((D.length : Nat) : Int) / 2 < (n : Int) := by omega
    have hq2 : (((D.length : Nat) : Int)).tdiv 2 = ((D.length : Nat) : Int) / 2 := Int.tdiv_eq_ediv_of_nonneg (by omega)
    go_enter Try.func56, Try.ntmps56
    go_wp2_with (go_at_call 92; refine (cN _).out.mono ?_; clear cN; rintro r v1 ⟨rfl, hg⟩; have HV := Lib.hid (HW.out.1.trans hg); clear hg)
    go_ret2
    exact ⟨none, 0, rfl, Own.nil _ _ _ _ _, HV.out⟩
  have hq : ¬ ((D.length : Nat) : Int) / 2 < (n : Int) := by omega
  have hq2 : (((D.length : Nat) : Int)).tdiv 2 = ((D.length : Nat) : Int) / 2 := Int.tdiv_eq_ediv_of_nonneg (by omega)
  obtain ⟨ans, hans⟩ : ∃ ans, ans = kiAns D n := ⟨_, rfl⟩
  have HANS := Lib.hid hans
  rw [← hans]
  clear hans
  go_enter Try.func56, Try.ntmps56
  go_wp2_with (go_at_call 92; refine (cN _).out.mono ?_; clear cN; rintro r v1 ⟨rfl, hg⟩; have HV := Lib.hid (And.intro (HW.out.1.trans hg) ((hg.block (lt_of_row HW.out.2)).trans HW.out.2)); clear hg)
  have cO1 := fun s w1 => Lib.hid (oct_over s w1)
  have cO2 := fun s w1 => Lib.hid (oct_over s w1)
  have hm : IntKind.i64.wrap (2 * (n : Int)) = 2 * (n : Int) := by rw [IntKind.wrap_i64]; omega
  have hb1 : 2 * (n : Int) ≤ ((D.length : Nat) : Int) := by omega
  have hb0 : (0 : Int) ≤ 2 * (n : Int) := by omega
  have hnt : (2 * (n : Int)).toNat = 2 * n := by omega
  have HHH : Hid (w.heap.size ≤ w.heap.size) := Nat.le_refl _
  go_region_held3 (fun _ => True) (trivial)
    (first
      | (go_at_call 96; refine (cO1 _ _).out.mono ?_; clear cO1; rintro r v2 ⟨rfl, hr, hg⟩; have HV2 := Lib.hid (And.intro hr (And.intro (HV.out.1.drew.trans hg) ((hg.block (lt_of_row HV.out.2)).trans HV.out.2))); clear hr hg)
      | (go_at_call 96; refine (cO2 _ _).out.mono ?_; clear cO2; rintro r v3 ⟨rfl, hr, hg⟩; have HV3 := Lib.hid (And.intro (HV2.out.1.gr hg) (And.intro hr (And.intro (HV2.out.2.1.trans hg) ((hg.block (lt_of_row HV2.out.2.2)).trans HV2.out.2.2)))); clear hr hg))
  have HQ0 : Hid (Rq 61 2 kiCell w v3 w.heap.size v1.heap.size v2.heap.size (.cells #[.func (.func 73) #[] #[], .func (.func 76) #[] #[], .func (.func 79) #[] #[], .nilFunc] 87 (0, 0)) none 0 [] (B ((D.take (2 * n)).drop (2 * 0))) 0 (B (D.drop (2 * n))) 0) := by
    have h1 := HV3.out.1
    have h2 := HV3.out.2.1
    rw [B_extract] at h1 h2
    rw [List.drop_zero, Nat.sub_zero] at h1
    rw [List.take_of_length_le (by rw [List.length_drop]; exact Nat.le_refl _)] at h2
    refine ⟨HV3.out.2.2.1, HV3.out.2.2.2, by rw [Nat.mul_zero, List.drop_zero]; exact h1, h2, Own.nil _ _ _ _ _, Nat.le_refl _, lt_of_row HV.out.2, HV2.out.1.lt⟩
  clear HV HV2 HV3 HHH HW
  generalize v3 = W at *
  generalize v1.heap.size = b1 at *
  generalize v2.heap.size = b2 at *
  obtain ⟨g, hg⟩ : ∃ g, g = w.heap.size := ⟨_, rfl⟩
  rw [← hg] at HQ0 ⊢
  have HG := Lib.hid hg
  clear hg
  obtain ⟨ii, hii, hz0, hz1, hz2⟩ := info_parts ki_infor
  go_wp2
  go_loopw [10, 36] (fun v i wr => ∃ (k : Nat) (A : Option Addr) (cap : Nat) (l : List Ki) (t : List UInt8), k ≤ n ∧ i = .int .i64 (k : Nat) ∧ v = .slice A l.length cap ∧ l.length = k ∧ t.length ≤ D.length ∧ Hid (Rq 61 2 kiCell w wr g b1 b2 (.cells #[.func (.func 73) #[] #[], .func (.func 76) #[] #[], .func (.func 79) #[] #[], .nilFunc] 87 (0, 0)) A cap l (B ((D.take (2 * n)).drop (2 * k))) 0 (B t) 0 ∧ Mid kiB kiCan D n k l t ∧ ∀ x ∈ l, kiOk x)) (fun _ i _ => n - (intOf i).toNat)
  case atStart => exact ⟨0, none, 0, [], D.drop (2 * n), by omega, rfl, rfl, rfl, by simp, HQ0.out, Mid.start D n, fun x hx => by simp at hx⟩
  case round =>
    obtain ⟨k, A, cap, l, t, hk, rfl, rfl, hlk, htl, HR⟩ := hrel
    clear HQ0
    by_cases hlt : k < n
    · have c1 := Lib.hid (oct_rdtwo b1 (B ((D.take (2 * n)).drop (2 * k))) (by rw [B_size, List.length_drop, List.length_take]; unfold maxLen; omega) 0 wr HR.out.1.r1)
      rw [slot_at D n k hlt hn] at c1
      have hle : 2 * n + (slCells (l.map kiB)).length + t.length = D.length := by
        have := congrArg List.length HR.out.2.1.2.2.1
        rw [List.length_drop, List.length_append] at this
        omega
      have HSL : Hid (∀ q, q ≠ 2 * n + (slCells (l.map kiB)).length → q = Oct.num ((D.drop (2 * k)).take 2) → ∀ L, ¬ Lay kiB kiCan D n L) := fun q h1 h2 L hL => h1 (h2.trans (HR.out.2.1.slot rdg_ki hL hlt (by omega)))
      have HPU : Hid (Oct.num ((D.drop (2 * k)).take 2) = 2 * n + (slCells (l.map kiB)).length → ∀ x t2, rdKi (B t) 0 = (x, B t2, 0) → Mid kiB kiCan D n (k + 1) (l ++ [x]) t2) := fun h1 x t2 h2 => HR.out.2.1.push rdg_ki (by omega) h1 h2
      have HBD : Hid ((rdKi (B t) 0).2.2 ≠ 0 → ∀ L, ¬ Lay kiB kiCan D n L) := fun h1 L hL => h1 (HR.out.2.1.bad rdg_ki hL hlt)
      have hql : Oct.num ((D.drop (2 * k)).take 2) < 65536 := by
        have := Oct.num_lt ((D.drop (2 * k)).take 2)
        have h2 : ((D.drop (2 * k)).take 2).length = 2 := by rw [List.length_take, List.length_drop]; omega
        rw [h2] at this; exact this
      generalize Oct.num ((D.drop (2 * k)).take 2) = q at *
      generalize (slCells (l.map kiB)).length = cl at *
      have c2 := fun w1 h1 => Lib.hid (oct_left b2 (B t) 0 w1 h1)
      rw [B_size] at c2
      by_cases hs : q = 2 * n + cl
      case neg =>
        have HA : Hid (ans = ([], 4)) := HANS.out.trans (rdAns_none (HSL.out q hs rfl))
        obtain rfl := HA.out
        have hs1 : ¬ (q : Int) = ((D.length : Nat) : Int) - ((t.length : Nat) : Int) := by omega
        clear HSL HPU HBD
        go_wp2_with (first
          | (go_at_call 97; refine c1.out.mono ?_; clear c1; rintro r v4 ⟨rfl, hr, hc⟩; have HR4 := Lib.hid (HR.out.1.ch1 hc hr); clear hr hc)
          | (go_at_call 98; refine (c2 _ HR4.out.r2).out.mono ?_; clear c2; rintro r v5 ⟨rfl, rfl⟩))
        go_ret2
        exact ⟨none, 0, rfl, Own.nil _ _ _ _ _, HR4.out.gr⟩
      have hs1 : (q : Int) = ((D.length : Nat) : Int) - ((t.length : Nat) : Int) := by omega
      have c3 := fun w1 h1 => Lib.hid (sl_getKid b2 (B t) (by rw [B_size]; unfold maxLen; omega) 0 w1 h1)
      have hsz := rdKi_size (B t) 0 (by rw [B_size]; omega)
      rw [B_size] at hsz
      generalize rdKi (B t) 0 = p at *
      obtain ⟨x, t2, e2⟩ := p
      obtain ⟨t2, rfl⟩ := B_of t2
      simp only [B_size] at hsz c3 HPU HBD
      have HOK := Lib.hid hsz.1
      have ht2 := hsz.2
      clear hsz HSL
      have hk2 := HR.out.1.own.cap_le
      have c4 := fun w1 h1 => Lib.hid (oct_err b2 (B t2) e2 w1 h1)
      have HENC : Hid (kiCell x = [.string x.1, .int .u32 (x.2 : Nat)]) := rfl
      have HMK : Hid (∀ y, y ∈ l ++ [x] → kiOk y) := by
        intro y hy
        rcases List.mem_append.1 hy with hy | hy
        · exact HR.out.2.2 y hy
        · simp only [List.mem_singleton] at hy; subst hy; exact HOK.out
      obtain rfl : k = l.length := hlk.symm
      have cg1 : wr.cell? ⟨g, 1, none⟩ = some (.func (.func 76) #[] #[]) := row_cell HR.out.1.row 1 _ rfl
      by_cases he : e2 = 0
      case neg =>
        have HA : Hid (ans = ([], 4)) := HANS.out.trans (rdAns_none (HBD.out he))
        obtain rfl := HA.out
        have hne : (e2 != 0) = true := by simpa using he
        clear HPU HBD HA
        go_wp2_with (first
          | (go_at_call 97; refine c1.out.mono ?_; clear c1; rintro r v4 ⟨rfl, hr, hc⟩; have HR4 := Lib.hid (HR.out.1.ch1 hc hr); clear hr hc; have dg1 : v4.cell? ⟨g, 1, none⟩ = some (.func (.func 76) #[] #[]) := row_cell HR4.out.row 1 _ rfl)
          | (go_at_call 98; refine (c2 _ HR4.out.r2).out.mono ?_; clear c2; rintro r v5 ⟨rfl, rfl⟩)
          | (go_at_call 76; refine (c3 _ HR4.out.r2).out.mono ?_; clear c3; rintro r v6 ⟨rfl, hr, hc⟩; have HR6 := Lib.hid ((HR4.out.ch2 hc hr).gr' ((Gr.refl v6).alloc (.cells #[.string x.1, .int .u32 (x.2 : Nat)] 61))); have HN := Lib.hid (heap_alloc_last v6 (.cells #[.string x.1, .int .u32 (x.2 : Nat)] 61)); have HZ : Hid (b2 + 1 ≤ (v6.alloc (.cells #[.string x.1, .int .u32 (x.2 : Nat)] 61)).heap.size) := HR6.out.r2.lt; clear hr hc)
          | (at_builtin; refine wpList_append_lies _ rfl _ _ 25 rfl (b2 + 1) 61 ii _ 2 24 Try.underlying25 hii hz0 hz1 hz2 rfl (by omega) (.slice A l.length cap) l.length (l.flatMap kiCell) rfl HR6.out.own ⟨v6.heap.size, 0, none⟩ 1 1 [.string x.1, .int .u32 (x.2 : Nat)] rfl rfl (World.news_of_block (cs := #[.string x.1, .int .u32 (x.2 : Nat)]) HN.out) (fun u hu => by simp at hu; rcases hu with rfl | rfl <;> rfl) (by omega) (by unfold maxLen; omega) (by omega) HZ.out _ rfl ?_; intro gg cc v7 hown hgrow hat hlt5; have HR7 := Lib.hid (HR6.out.push hgrow (Own.push x (by rw [HENC.out]; exact hown))); clear hown hgrow hat)
          | (go_at_call 99; refine (c4 _ HR7.out.r2).out.mono ?_; clear c4; rintro r v8 ⟨rfl, rfl⟩))
        go_ret2
        exact ⟨none, 0, rfl, Own.nil _ _ _ _ _, HR7.out.gr⟩
      subst he
      have HM2 : Hid (Mid kiB kiCan D n (l.length + 1) (l ++ [x]) t2) := HPU.out hs x t2 rfl
      clear HPU HBD
      go_wp2_with (first
        | (go_at_call 97; refine c1.out.mono ?_; clear c1; rintro r v4 ⟨rfl, hr, hc⟩; have HR4 := Lib.hid (HR.out.1.ch1 hc hr); clear hr hc; have dg1 : v4.cell? ⟨g, 1, none⟩ = some (.func (.func 76) #[] #[]) := row_cell HR4.out.row 1 _ rfl)
          | (go_at_call 98; refine (c2 _ HR4.out.r2).out.mono ?_; clear c2; rintro r v5 ⟨rfl, rfl⟩)
          | (go_at_call 76; refine (c3 _ HR4.out.r2).out.mono ?_; clear c3; rintro r v6 ⟨rfl, hr, hc⟩; have HR6 := Lib.hid ((HR4.out.ch2 hc hr).gr' ((Gr.refl v6).alloc (.cells #[.string x.1, .int .u32 (x.2 : Nat)] 61))); have HN := Lib.hid (heap_alloc_last v6 (.cells #[.string x.1, .int .u32 (x.2 : Nat)] 61)); have HZ : Hid (b2 + 1 ≤ (v6.alloc (.cells #[.string x.1, .int .u32 (x.2 : Nat)] 61)).heap.size) := HR6.out.r2.lt; clear hr hc)
          | (at_builtin; refine wpList_append_lies _ rfl _ _ 25 rfl (b2 + 1) 61 ii _ 2 24 Try.underlying25 hii hz0 hz1 hz2 rfl (by omega) (.slice A l.length cap) l.length (l.flatMap kiCell) rfl HR6.out.own ⟨v6.heap.size, 0, none⟩ 1 1 [.string x.1, .int .u32 (x.2 : Nat)] rfl rfl (World.news_of_block (cs := #[.string x.1, .int .u32 (x.2 : Nat)]) HN.out) (fun u hu => by simp at hu; rcases hu with rfl | rfl <;> rfl) (by omega) (by unfold maxLen; omega) (by omega) HZ.out _ rfl ?_; intro gg cc v7 hown hgrow hat hlt5; have HR7 := Lib.hid (HR6.out.push hgrow (Own.push x (by rw [HENC.out]; exact hown))); clear hown hgrow hat)
          | (go_at_call 99; refine (c4 _ HR7.out.r2).out.mono ?_; clear c4; rintro r v8 ⟨rfl, rfl⟩))
      have HT : Hid (Rq 61 2 kiCell w v7 g b1 b2 (.cells #[.func (.func 73) #[] #[], .func (.func 76) #[] #[], .func (.func 79) #[] #[], .nilFunc] 87 (0, 0)) (some ⟨gg, 0, none⟩) cc (l ++ [x]) (B ((D.take (2 * n)).drop (2 * (l.length + 1)))) 0 (B t2) 0 ∧ Mid kiB kiCan D n (l.length + 1) (l ++ [x]) t2 ∧ ∀ y ∈ l ++ [x], kiOk y) := ⟨HR7.out, HM2.out, HMK.out⟩
      clear HR4 HR6 HR7 HM2 HMK
      go_roundw
      case rel => exact ⟨l.length + 1, _, _, l ++ [x], t2, by omega, by go_num, (by rw [List.length_append, List.length_singleton]), (by rw [List.length_append, List.length_singleton]), by omega, HT⟩
      case measure => simp [intOf]; omega
    · obtain rfl : n = k := by omega
      have hcc := HR.out.1.own.cap_le
      have c1 := Lib.hid (oct_end b2 (B t) 0 wr HR.out.1.r2)
      by_cases ht : t = []
      case neg =>
        have hpos : 0 < t.length := List.length_pos_iff.2 ht
        have hE : rdEnd (B t) 0 = 4 := by unfold rdEnd; rw [if_neg (by simp), if_pos (by rw [B_size]; exact hpos)]
        rw [hE] at c1
        have HA : Hid (ans = ([], 4)) := HANS.out.trans (rdAns_none fun L hL => ht (HR.out.2.1.over rdg_ki hL).1)
        obtain rfl := HA.out
        clear hE
        go_wp2_with (go_at_call 100; refine c1.out.mono ?_; clear c1; rintro r v8 ⟨rfl, rfl⟩)
        go_ret2
        exact ⟨none, 0, rfl, Own.nil _ _ _ _ _, HR.out.1.gr⟩
      subst ht
      have hE : rdEnd (B []) 0 = 0 := rfl
      rw [hE] at c1
      clear hE
      have HLAY : Hid (Lay kiB kiCan D n l) := HR.out.2.1.lay
      have HA : Hid (ans = if kiErr l = 0 then (l, 0) else ([], kiErr l)) := HANS.out.trans (rdAns_some rdg_ki HLAY.out)
      have c5 := Lib.hid (ki_right A cap l hcc.1 hcc.2 (by omega) HR.out.2.2 wr (HR.out.1.own.slice (fun _ => rfl)))
      generalize kiErr l = er at *
      clear hlk
      have s0 := row_cell HR.out.1.row 0 _ rfl
      have s1 := row_cell HR.out.1.row 1 _ rfl
      have s2 := row_cell HR.out.1.row 2 _ rfl
      have s3 := row_cell HR.out.1.row 3 _ rfl
      by_cases he : er = 0
      · subst he
        rw [if_pos rfl] at HA
        obtain rfl := HA.out
        go_wp2_with (first
          | (go_at_call 100; refine c1.out.mono ?_; clear c1; rintro r v8 ⟨rfl, rfl⟩)
          | (go_at_call 93; refine c5.out.mono ?_; clear c5; rintro r v9 ⟨rfl, hg⟩; have HR9 := Lib.hid (HR.out.1.gr' hg); clear hg))
        go_ret2
        exact ⟨A, cap, rfl, HR9.out.own.mono (by have := HR9.out.lo; have := HG.out; omega), HR9.out.gr⟩
      · rw [if_neg he] at HA
        obtain rfl := HA.out
        have hne : (er != 0) = true := by simpa using he
        go_wp2_with (first
          | (go_at_call 100; refine c1.out.mono ?_; clear c1; rintro r v8 ⟨rfl, rfl⟩)
          | (go_at_call 93; refine c5.out.mono ?_; clear c5; rintro r v9 ⟨rfl, hg⟩; have HR9 := Lib.hid (HR.out.1.gr' hg); clear hg))
        go_ret2
        exact ⟨none, 0, rfl, Own.nil _ _ _ _ _, HR9.out.gr⟩
end Go.Proofs.Ytmpmfgkabjedpaa
