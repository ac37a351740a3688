/- The law SlotsReads, walked (printed by slreads_gen.py). -/
import Derived.Test.YtbkcfadbjebbdaaSlRReadL
import Derived.Test.YtbkcfadbjebbdaaSlRReadK
import Derived.Test.YtbkcfadbjebbdaaSlRef5
import Derived.Test.YtbkcfadbjebbdaaSlBackM
import Derived.Test.YtbkcfadbjebbdaaSl6L
import Derived.Test.YtbkcfadbjebbdaaSl6K
import Derived.Test.YtbkcfadbjebbdaaRises
namespace Go.Proofs.Ytbkcfadbjebbdaa
open Go.RowKit
set_option linter.unusedVariables false
set_option linter.unusedSimpArgs false
set_option maxRecDepth 100000
set_option maxHeartbeats 4000000
/-- the two shapes lie in the blocks bs and bk -/
structure Shs (bs bk : Nat) (w W : World) : Prop where
  gr : Gr w W
  rs : W.heap[bs]? = some (.cells #[.func (.func 71) #[] #[], .func (.func 72) #[] #[], .func (.func 73) #[] #[], .func (.func 74) #[] #[]] 29 (0, 0))
  rk : W.heap[bk]? = some (.cells #[.func (.func 75) #[] #[], .func (.func 78) #[] #[], .func (.func 81) #[] #[], .nilFunc] 35 (0, 0))
theorem Shs.step {bs bk : Nat} {w W W' : World} (h : Shs bs bk w W) (hg : Gr W W') : Shs bs bk w W' :=
  ⟨h.gr.trans hg, (hg.block (lt_of_row h.rs)).trans h.rs, (hg.block (lt_of_row h.rk)).trans h.rk⟩
theorem rErr_rises {α : Type} {bad : α → Bool} {key : α → ByteArray} {xs : List α} (h : rErr bad key xs = 0) : Rises key xs := by
  intro i a b ha hb
  cases hs : SL (key a) (key b) with
  | true => rfl
  | false => rw [rErr_ord (rErr_0 h) ha hb hs] at h; cases h
theorem rdAns_rises {α : Type} (byt : α → ByteArray) (can : α → Prop) (bad : α → Bool) (key : α → ByteArray) (D : List UInt8) (count : Int) : Rises key (rdAns byt can bad key D count).1 ∧ 2 * (rdAns byt can bad key D count).1.length ≤ D.length := by
  rcases rdAns_cases byt can bad key D count with ⟨l, h1, h2, h3, h4⟩ | ⟨e, he, h1⟩
  · rw [h1]; exact ⟨rErr_rises h4, by have := h3.len; rw [← h3.1] at this; simp only; omega⟩
  · rw [h1]; exact ⟨fun i a b h => by simp at h, by simp⟩
theorem fdAt_map {α β : Type} {ka : α → ByteArray} {kb : β → ByteArray} {f : α → β} (hk : ∀ x, kb (f x) = ka x) (xs : List α) (k : ByteArray) : fdAt kb (xs.map f) k = fdAt ka xs k := by
  unfold fdAt
  rw [List.findIdx_map]
  congr 1
  funext x
  simp only [Function.comp, hk]
theorem fdIs_map {α β : Type} {ka : α → ByteArray} {kb : β → ByteArray} {f : α → β} (hk : ∀ x, kb (f x) = ka x) (xs : List α) (k : ByteArray) : fdIs kb (xs.map f) k = fdIs ka xs k := by
  unfold fdIs
  rw [fdAt_map hk, List.getElem?_map]
  cases xs[fdAt ka xs k]? with
  | none => rfl
  | some x => simp only [Option.map_some, hk]
theorem walk_SlotsReads_ (D : List UInt8) (hDm : D.length ≤ maxLen) (count : Int) (hc64 : I64 count) (key : ByteArray) (w : World) :
    Calls Try.prog 8 #[.string (B D), .int .i64 count, .string key] w fun e w' => e = .returned (.bool true) ∧ Gr w w' := by
  have cA := fun w1 => Lib.hid (law06_awake w1)
  have hBs : (B D).size = D.length := B_size D
  unfold maxLen at hDm
  by_cases hD : D.length ≤ 5000
  case neg =>
    have hD2 : (5000 : Int) < ((D.length : Nat) : Int) := by omega
    go_enter Try.func8, Try.ntmps8
    go_wp2_with (go_at_call 12; refine (cA _).out.mono ?_; rintro r v1 ⟨rfl, hg⟩; have HG := Lib.hid hg; clear hg)
    go_ret
    exact ⟨rfl, HG.out⟩
  have hD2 : ¬ (5000 : Int) < ((D.length : Nat) : Int) := by omega
  have c1 := fun w1 => Lib.hid (lf_read D (by omega) count hc64 w1)
  have c2 := fun w1 => Lib.hid (lf_rread D (by omega) count hc64 w1)
  have c3 := fun w1 => Lib.hid (ki_read D (by omega) count hc64 w1)
  have c4 := fun w1 => Lib.hid (ki_rread D (by omega) count hc64 w1)
  have HL := Lib.hid (rdAns_rises lfB ceCan ceBad (fun x : Ce => x.1) D count)
  have HK := Lib.hid (rdAns_rises kiB kiCan keyBad (fun x : Ki => x.1) D count)
  have hl1 : (lfAns D count).1.length ≤ 4000 := by have := HL.out.2; unfold lfAns; omega
  have hl2 : (kiAns D count).1.length ≤ 4000 := by have := HK.out.2; unfold kiAns; omega
  have HLr : Hid (Rises (fun x : Ce => x.1) (lfAns D count).1) := HL.out.1
  have HKr : Hid (Rises (fun x : Ki => x.1) (kiAns D count).1) := HK.out.1
  clear HL HK
  generalize lfAns D count = la at *
  generalize kiAns D count = ka at *
  obtain ⟨xs, el⟩ := la
  obtain ⟨ys, ek⟩ := ka
  simp only at c1 c2 c3 c4 HLr HKr hl1 hl2
  have c4' : ∀ w1, Hid (Calls Try.prog 46 #[.string (B D), .int .i64 count, .bool false] w1 fun r w' => ∃ A cap, r = .returned (.tuple #[.slice A (ys.map ceOf).length cap, .int .i64 ek]) ∧ (SliceAt w' A 4 ceCell (ys.map ceOf) ∧ (ys.map ceOf).length ≤ cap ∧ cap ≤ maxLen) ∧ Gr w1 w') := fun w1 => (c4 w1).out.mono fun r w' ⟨A, cap, h1, h2, h3⟩ => ⟨A, cap, by rw [List.length_map]; exact h1, ⟨h2.map.slice (fun _ => rfl), by rw [List.length_map]; exact h2.cap_le.1, h2.cap_le.2⟩, h3⟩
  have c5 := fun A1 cap1 h1 h2 w1 h3 => Lib.hid (law_cells A1 cap1 ys h1 h2 hl2 w1 h3)
  have c6 := fun A1 A2 cap1 cap2 h1 h2 h3 h4 w1 h5 h6 => Lib.hid (rf_same A1 A2 cap1 cap2 xs h1 h2 h3 h4 w1 h5 h6)
  have c7 := fun A1 A2 cap1 cap2 h1 h2 h3 h4 w1 h5 h6 => Lib.hid (rf_same A1 A2 cap1 cap2 (ys.map ceOf) h1 h2 h3 h4 w1 h5 h6)
  have d1 := fun A1 cap1 h1 h2 w1 h3 => Lib.hid (lf_find A1 cap1 xs h1 h2 key (HLr.out.mono key) (by omega) w1 h3)
  have d2 := fun A1 cap1 h1 h2 w1 h3 => Lib.hid (rf_find A1 cap1 xs h1 h2 key w1 h3)
  have d3 := fun A1 cap1 h1 h2 w1 h3 => Lib.hid (ki_find A1 cap1 ys h1 h2 key (HKr.out.mono key) (by omega) w1 h3)
  have d4 := fun A1 cap1 h1 h2 w1 h3 => Lib.hid (rf_find A1 cap1 (ys.map ceOf) h1 h2 key w1 h3)
  rw [fdAt_map (ka := fun x : Ki => x.1) (kb := fun x : Ce => x.1) (f := ceOf) (fun _ => rfl), fdIs_map (ka := fun x : Ki => x.1) (kb := fun x : Ce => x.1) (f := ceOf) (fun _ => rfl)] at d4
  clear c4 HLr HKr hl1 hl2
  generalize ys.map ceOf = zs at *
  generalize fdAt (fun x : Ce => x.1) xs key = fa at *
  generalize fdIs (fun x : Ce => x.1) xs key = fi at *
  generalize fdAt (fun x : Ki => x.1) ys key = ga at *
  generalize fdIs (fun x : Ki => x.1) ys key = gi at *
  go_enter Try.func8, Try.ntmps8
  go_wp2_with (first
    | (go_at_call 12; refine (cA _).out.mono ?_; clear cA; rintro r v1 ⟨rfl, hg⟩; have HG2 := Lib.hid hg; clear hg)
    | (go_at_call 14; refine (sl_leaves _).mono ?_; rintro r v3 ⟨rfl, hg⟩; have HG3 := Lib.hid (HG2.out.trans hg); clear hg)
    | (go_at_call 15; refine (sl_kids _).mono ?_; rintro r v4 ⟨rfl, hg⟩; have HG4 := Lib.hid (HG3.out.trans hg); clear hg))
  have HS : Hid (Shs v4.heap.size (v4.heap.size + 1) w ((v4.alloc (.cells #[.func (.func 71) #[] #[], .func (.func 72) #[] #[], .func (.func 73) #[] #[], .func (.func 74) #[] #[]] 29)).alloc (.cells #[.func (.func 75) #[] #[], .func (.func 78) #[] #[], .func (.func 81) #[] #[], .nilFunc] 35))) := by
    have hh := heap_alloc_last (v4.alloc (.cells #[.func (.func 71) #[] #[], .func (.func 72) #[] #[], .func (.func 73) #[] #[], .func (.func 74) #[] #[]] 29)) (.cells #[.func (.func 75) #[] #[], .func (.func 78) #[] #[], .func (.func 81) #[] #[], .nilFunc] 35)
    rw [alloc_size] at hh
    exact ⟨(HG4.out.alloc _).alloc _, (((Gr.refl _).alloc _).block (k := v4.heap.size) (by simp only [alloc_size]; omega)).trans (heap_alloc_last v4 _), hh⟩
  clear HG2 HG3 HG4
  generalize (v4.alloc (.cells #[.func (.func 71) #[] #[], .func (.func 72) #[] #[], .func (.func 73) #[] #[], .func (.func 74) #[] #[]] 29)).alloc (.cells #[.func (.func 75) #[] #[], .func (.func 78) #[] #[], .func (.func 81) #[] #[], .nilFunc] 35) = W at *
  generalize v4.heap.size = b at *
  go_wp2_with (first
    | (go_at_call 30; refine (c1 _).out.mono ?_; clear c1; rintro r u1 ⟨A1, cap1, rfl, ho, hg⟩; have H1 : Hid (Shs b (b + 1) w u1 ∧ SliceAt u1 A1 4 ceCell xs) := ⟨HS.out.step hg, ho.slice (fun _ => rfl)⟩; have K1 := Lib.hid ho.cap_le; clear ho hg; have s0 := row_cell H1.out.1.rs 0 _ rfl; have s1 := row_cell H1.out.1.rs 1 _ rfl; have s2 := row_cell H1.out.1.rs 2 _ rfl; have s3 := row_cell H1.out.1.rs 3 _ rfl; have q0 := row_cell H1.out.1.rk 0 _ rfl; have q1 := row_cell H1.out.1.rk 1 _ rfl; have q2 := row_cell H1.out.1.rk 2 _ rfl; have q3 := row_cell H1.out.1.rk 3 _ rfl)
    | (go_at_call 46; (with_reducible show Calls _ _ #[_, _, .bool true] _ _); refine (c2 _).out.mono ?_; clear c2; rintro r u2 ⟨A2, cap2, rfl, ho, hg⟩; have H2 : Hid (Shs b (b + 1) w u2 ∧ SliceAt u2 A1 4 ceCell xs ∧ SliceAt u2 A2 4 ceCell xs) := ⟨H1.out.1.step hg, H1.out.2.gr hg, ho.slice (fun _ => rfl)⟩; have K2 := Lib.hid ho.cap_le; clear ho hg; have s0 := row_cell H2.out.1.rs 0 _ rfl; have s1 := row_cell H2.out.1.rs 1 _ rfl; have s2 := row_cell H2.out.1.rs 2 _ rfl; have s3 := row_cell H2.out.1.rs 3 _ rfl; have q0 := row_cell H2.out.1.rk 0 _ rfl; have q1 := row_cell H2.out.1.rk 1 _ rfl; have q2 := row_cell H2.out.1.rk 2 _ rfl; have q3 := row_cell H2.out.1.rk 3 _ rfl)
    | (go_at_call 47; refine (c3 _).out.mono ?_; clear c3; rintro r u3 ⟨A3, cap3, rfl, ho, hg⟩; have H3 : Hid (Shs b (b + 1) w u3 ∧ SliceAt u3 A1 4 ceCell xs ∧ SliceAt u3 A2 4 ceCell xs ∧ SliceAt u3 A3 2 kiCell ys) := ⟨H2.out.1.step hg, H2.out.2.1.gr hg, H2.out.2.2.gr hg, ho.slice (fun _ => rfl)⟩; have K3 := Lib.hid ho.cap_le; clear ho hg; have s0 := row_cell H3.out.1.rs 0 _ rfl; have s1 := row_cell H3.out.1.rs 1 _ rfl; have s2 := row_cell H3.out.1.rs 2 _ rfl; have s3 := row_cell H3.out.1.rs 3 _ rfl; have q0 := row_cell H3.out.1.rk 0 _ rfl; have q1 := row_cell H3.out.1.rk 1 _ rfl; have q2 := row_cell H3.out.1.rk 2 _ rfl; have q3 := row_cell H3.out.1.rk 3 _ rfl)
    | (go_at_call 46; (with_reducible show Calls _ _ #[_, _, .bool false] _ _); refine (c4' _).out.mono ?_; clear c4'; rintro r u4 ⟨A4, cap4, rfl, ⟨ho, hk⟩, hg⟩; have H4 : Hid (Shs b (b + 1) w u4 ∧ SliceAt u4 A1 4 ceCell xs ∧ SliceAt u4 A2 4 ceCell xs ∧ SliceAt u4 A3 2 kiCell ys ∧ SliceAt u4 A4 4 ceCell zs) := ⟨H3.out.1.step hg, H3.out.2.1.gr hg, H3.out.2.2.1.gr hg, H3.out.2.2.2.gr hg, ho⟩; have K4 := Lib.hid hk; clear ho hk hg; have s0 := row_cell H4.out.1.rs 0 _ rfl; have s1 := row_cell H4.out.1.rs 1 _ rfl; have s2 := row_cell H4.out.1.rs 2 _ rfl; have s3 := row_cell H4.out.1.rs 3 _ rfl; have q0 := row_cell H4.out.1.rk 0 _ rfl; have q1 := row_cell H4.out.1.rk 1 _ rfl; have q2 := row_cell H4.out.1.rk 2 _ rfl; have q3 := row_cell H4.out.1.rk 3 _ rfl)
    | (go_at_call 48; refine (c6 A1 A2 cap1 cap2 K1.out.1 K2.out.1 K1.out.2 K2.out.2 _ H4.out.2.1 H4.out.2.2.1).out.mono ?_; clear c6; rintro r u5 ⟨rfl, hg⟩; have H5 : Hid (Shs b (b + 1) w u5 ∧ SliceAt u5 A1 4 ceCell xs ∧ SliceAt u5 A2 4 ceCell xs ∧ SliceAt u5 A3 2 kiCell ys ∧ SliceAt u5 A4 4 ceCell zs) := ⟨H4.out.1.step hg, H4.out.2.1.gr hg, H4.out.2.2.1.gr hg, H4.out.2.2.2.1.gr hg, H4.out.2.2.2.2.gr hg⟩; clear hg)
    | (go_at_call 49; refine (c5 A3 cap3 K3.out.1 K3.out.2 _ H5.out.2.2.2.1).out.mono ?_; clear c5; rintro r u6 ⟨A5, cap5, rfl, ho, hg⟩; have H6 : Hid ((Shs b (b + 1) w u6 ∧ SliceAt u6 A1 4 ceCell xs ∧ SliceAt u6 A2 4 ceCell xs ∧ SliceAt u6 A3 2 kiCell ys ∧ SliceAt u6 A4 4 ceCell zs) ∧ SliceAt u6 A5 4 ceCell zs) := ⟨⟨H5.out.1.step hg, H5.out.2.1.gr hg, H5.out.2.2.1.gr hg, H5.out.2.2.2.1.gr hg, H5.out.2.2.2.2.gr hg⟩, ho.slice (fun _ => rfl)⟩; have K5 := Lib.hid ho.cap_le; clear ho hg)
    | (go_at_call 48; refine (c7 A5 A4 cap5 cap4 K5.out.1 K4.out.1 K5.out.2 K4.out.2 _ H6.out.2 H6.out.1.2.2.2.2).out.mono ?_; clear c7; rintro r u7 ⟨rfl, hg⟩; have H7 : Hid (Shs b (b + 1) w u7 ∧ SliceAt u7 A1 4 ceCell xs ∧ SliceAt u7 A2 4 ceCell xs ∧ SliceAt u7 A3 2 kiCell ys ∧ SliceAt u7 A4 4 ceCell zs) := ⟨H6.out.1.1.step hg, H6.out.1.2.1.gr hg, H6.out.1.2.2.1.gr hg, H6.out.1.2.2.2.1.gr hg, H6.out.1.2.2.2.2.gr hg⟩; clear hg; have s0 := row_cell H7.out.1.rs 0 _ rfl; have s1 := row_cell H7.out.1.rs 1 _ rfl; have s2 := row_cell H7.out.1.rs 2 _ rfl; have s3 := row_cell H7.out.1.rs 3 _ rfl; have q0 := row_cell H7.out.1.rk 0 _ rfl; have q1 := row_cell H7.out.1.rk 1 _ rfl; have q2 := row_cell H7.out.1.rk 2 _ rfl; have q3 := row_cell H7.out.1.rk 3 _ rfl)
    | (go_at_call 40; refine (d1 A1 cap1 K1.out.1 K1.out.2 _ H7.out.2.1).out.mono ?_; clear d1; rintro r u8 ⟨rfl, hg⟩; have H8 : Hid (Shs b (b + 1) w u8 ∧ SliceAt u8 A2 4 ceCell xs ∧ SliceAt u8 A3 2 kiCell ys ∧ SliceAt u8 A4 4 ceCell zs) := ⟨H7.out.1.step hg, H7.out.2.2.1.gr hg, H7.out.2.2.2.1.gr hg, H7.out.2.2.2.2.gr hg⟩; clear hg)
    | (go_at_call 50; refine (d2 A2 cap2 K2.out.1 K2.out.2 _ H8.out.2.1).out.mono ?_; clear d2; rintro r u9 ⟨rfl, hg⟩; have H9 : Hid (Shs b (b + 1) w u9 ∧ SliceAt u9 A3 2 kiCell ys ∧ SliceAt u9 A4 4 ceCell zs) := ⟨H8.out.1.step hg, H8.out.2.2.1.gr hg, H8.out.2.2.2.gr hg⟩; clear hg; have s0 := row_cell H9.out.1.rs 0 _ rfl; have s1 := row_cell H9.out.1.rs 1 _ rfl; have s2 := row_cell H9.out.1.rs 2 _ rfl; have s3 := row_cell H9.out.1.rs 3 _ rfl; have q0 := row_cell H9.out.1.rk 0 _ rfl; have q1 := row_cell H9.out.1.rk 1 _ rfl; have q2 := row_cell H9.out.1.rk 2 _ rfl; have q3 := row_cell H9.out.1.rk 3 _ rfl)
    | (go_at_call 51; refine (d3 A3 cap3 K3.out.1 K3.out.2 _ H9.out.2.1).out.mono ?_; clear d3; rintro r ua ⟨rfl, hg⟩; have Ha : Hid (Shs b (b + 1) w ua ∧ SliceAt ua A4 4 ceCell zs) := ⟨H9.out.1.step hg, H9.out.2.2.gr hg⟩; clear hg)
    | (go_at_call 50; refine (d4 A4 cap4 K4.out.1 K4.out.2 _ Ha.out.2).out.mono ?_; clear d4; rintro r ub ⟨rfl, hg⟩; have Hb := Lib.hid (Ha.out.1.step hg); clear hg))
  go_ret
  exact ⟨rfl, Hb.out.gr⟩
end Go.Proofs.Ytbkcfadbjebbdaa
