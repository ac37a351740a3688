/- The law SlotsLays, walked (printed by sllays_gen.py). -/
import Derived.Test.YtbkcfadbjebbdaaSlLaw2
namespace Go.Proofs.Ytbkcfadbjebbdaa
open Go.RowKit
set_option linter.unusedVariables false
set_option linter.unusedSimpArgs false
set_option maxRecDepth 100000
set_option maxHeartbeats 4000000
/-- the two shapes lie in the blocks bs and bk, the cells where they were -/
structure LSt (A : Option Addr) (xs : List Ce) (bs bk : Nat) (w W : World) : Prop where
  gr : Gr w W
  rs : W.heap[bs]? = some (.cells #[.func (.func 71) #[] #[], .func (.func 72) #[] #[], .func (.func 73) #[] #[], .func (.func 74) #[] #[]] 29 (0, 0))
  rk : W.heap[bk]? = some (.cells #[.func (.func 75) #[] #[], .func (.func 78) #[] #[], .func (.func 81) #[] #[], .nilFunc] 35 (0, 0))
  sl : SliceAt W A 4 ceCell xs
theorem LSt.step {A : Option Addr} {xs : List Ce} {bs bk : Nat} {w W W' : World} (h : LSt A xs bs bk w W) (hg : Gr W W') : LSt A xs bs bk w W' :=
  ⟨h.gr.trans hg, (hg.block (lt_of_row h.rs)).trans h.rs, (hg.block (lt_of_row h.rk)).trans h.rk, h.sl.gr hg⟩
theorem LSt.c {A : Option Addr} {xs : List Ce} {bs bk : Nat} {w W : World} (h : LSt A xs bs bk w W) :
    (W.cell? ⟨bs, 0, none⟩ = some (.func (.func 71) #[] #[]) ∧ W.cell? ⟨bs, 1, none⟩ = some (.func (.func 72) #[] #[]) ∧ W.cell? ⟨bs, 2, none⟩ = some (.func (.func 73) #[] #[]) ∧ W.cell? ⟨bs, 3, none⟩ = some (.func (.func 74) #[] #[])) ∧
    (W.cell? ⟨bk, 0, none⟩ = some (.func (.func 75) #[] #[]) ∧ W.cell? ⟨bk, 1, none⟩ = some (.func (.func 78) #[] #[]) ∧ W.cell? ⟨bk, 2, none⟩ = some (.func (.func 81) #[] #[]) ∧ W.cell? ⟨bk, 3, none⟩ = some .nilFunc) :=
  ⟨⟨row_cell h.rs 0 _ rfl, row_cell h.rs 1 _ rfl, row_cell h.rs 2 _ rfl, row_cell h.rs 3 _ rfl⟩, ⟨row_cell h.rk 0 _ rfl, row_cell h.rk 1 _ rfl, row_cell h.rk 2 _ rfl, row_cell h.rk 3 _ rfl⟩⟩
theorem walk_SlotsLays_ (A : Option Addr) (cap : Nat) (xs : List Ce) (hcap : xs.length ≤ cap) (hcm : cap ≤ maxLen) (hu : ∀ x ∈ xs, ceU x) (w : World) (hs : SliceAt w A 4 ceCell xs) :
    Calls Try.prog 3 #[.slice A xs.length cap] w fun e w' => e = .returned (.bool true) ∧ Gr w w' := by
  have cA := fun w1 => Lib.hid (law06_awake w1)
  have cF := fun w1 (h : SliceAt w1 A 4 ceCell xs) => Lib.hid (law_few A cap xs hcap hcm w1 h)
  by_cases hf : fewB xs = true
  case neg =>
    have hf2 : fewB xs = false := by simpa using hf
    rw [hf2] at cF
    clear hf hf2
    have HX := Lib.hid hs
    clear hs
    go_enter Try.func3, Try.ntmps3
    go_wp2_with (first
      | (go_at_call 12; refine (cA _).out.mono ?_; rintro r v1 ⟨rfl, hg⟩; have HG := Lib.hid hg; clear hg)
      | (go_at_call 13; refine (cF _ (HX.out.gr HG.out)).out.mono ?_; rintro r v2 ⟨rfl, hg⟩; have HG2 := Lib.hid (HG.out.trans hg); clear hg))
    go_ret
    exact ⟨rfl, HG2.out⟩
  rw [hf] at cF
  obtain ⟨hl, hfew⟩ := fewB_true hf
  have hok : ∀ x ∈ xs, ceOk x := fun x hx => (hfew x hx).ok (hu x hx)
  have hkok : ∀ x ∈ xs.map kiOf, kiOk x := by
    intro x hx
    obtain ⟨y, hy, rfl⟩ := List.mem_map.1 hx
    exact ⟨(hok y hy).1, (hok y hy).2.2.1⟩
  have hzok : ∀ x ∈ (xs.map kiOf).map ceOf, ceOk x := by
    intro x hx
    obtain ⟨y, hy, rfl⟩ := List.mem_map.1 hx
    exact ⟨(hkok y hy).1, by simp [ceOf], (hkok y hy).2, by simp [ceOf]⟩
  have hyl : (xs.map kiOf).length ≤ 400 := by rw [List.length_map]; exact hl
  have hzl : ((xs.map kiOf).map ceOf).length ≤ 400 := by rw [List.length_map]; exact hyl
  have c1 := fun w1 (h : SliceAt w1 A 4 ceCell xs) => Lib.hid (lf_body A cap xs hcap hcm hl hok w1 h)
  have c2 := fun w1 (h : SliceAt w1 A 4 ceCell xs) => Lib.hid (rf_body true A cap xs hcap hcm hl hok w1 h)
  have c3 := fun w1 (h : SliceAt w1 A 4 ceCell xs) => Lib.hid (law_kids A cap xs hcap hcm hl w1 h)
  have c5 := fun w1 (h : SliceAt w1 A 4 ceCell xs) => Lib.hid (law_bare A cap xs hcap hcm hl w1 h)
  have c7 := fun w1 (h : SliceAt w1 A 4 ceCell xs) => Lib.hid (lf_sum A cap xs hcap hcm hl hok w1 h)
  have c8 := fun w1 (h : SliceAt w1 A 4 ceCell xs) => Lib.hid (rf_sum true A cap xs hcap hcm hl hok w1 h)
  have c4 := fun A1 cap1 h1 h2 w1 h => Lib.hid (ki_body A1 cap1 (xs.map kiOf) h1 h2 hyl hkok w1 h)
  have c9 := fun A1 cap1 h1 h2 w1 h => Lib.hid (ki_sum A1 cap1 (xs.map kiOf) h1 h2 hyl hkok w1 h)
  have c6 := fun A1 cap1 h1 h2 w1 h => Lib.hid (rf_body false A1 cap1 ((xs.map kiOf).map ceOf) h1 h2 hzl hzok w1 h)
  have c0 := fun A1 cap1 h1 h2 w1 h => Lib.hid (rf_sum false A1 cap1 ((xs.map kiOf).map ceOf) h1 h2 hzl hzok w1 h)
  rw [rcErr_leaf, rcB_leaf] at c2
  rw [rcSum_leaf] at c8
  rw [rcErr_kids, rcB_kids] at c6
  rw [rcSum_kids] at c0
  generalize slBody (lfErr xs) (xs.map lfB) = d1 at *
  generalize slBody (kiErr (xs.map kiOf)) ((xs.map kiOf).map kiB) = d2 at *
  generalize lfSum xs = n1 at *
  generalize kiSum (xs.map kiOf) = n2 at *
  obtain ⟨p1, e1⟩ := d1
  obtain ⟨p2, e2⟩ := d2
  simp only at c1 c2 c4 c6
  clear hok hkok hzok hyl hzl hfew hf hu hl
  have HX := Lib.hid hs
  clear hs
  generalize (xs.map kiOf).map ceOf = zs at *
  generalize xs.map kiOf = ys at *
  go_enter Try.func3, Try.ntmps3
  go_wp2_with (first
    | (go_at_call 12; refine (cA _).out.mono ?_; clear cA; rintro r v1 ⟨rfl, hg⟩; have HG := Lib.hid hg; clear hg)
    | (go_at_call 13; refine (cF _ (HX.out.gr HG.out)).out.mono ?_; clear cF; rintro r v2 ⟨rfl, hg⟩; have HG2 := Lib.hid (HG.out.trans hg); clear hg)
    | (go_at_call 14; refine (sl_leaves _).mono ?_; rintro r v3 ⟨rfl, hg⟩; have HG3 := Lib.hid (HG2.out.trans hg); clear hg)
    | (go_at_call 15; refine (sl_kids _).mono ?_; rintro r v4 ⟨rfl, hg⟩; have HG4 := Lib.hid (HG3.out.trans hg); clear hg))
  have HL : Hid (LSt A xs v4.heap.size (v4.heap.size + 1) w ((v4.alloc (.cells #[.func (.func 71) #[] #[], .func (.func 72) #[] #[], .func (.func 73) #[] #[], .func (.func 74) #[] #[]] 29)).alloc (.cells #[.func (.func 75) #[] #[], .func (.func 78) #[] #[], .func (.func 81) #[] #[], .nilFunc] 35))) := by
    have hh := heap_alloc_last (v4.alloc (.cells #[.func (.func 71) #[] #[], .func (.func 72) #[] #[], .func (.func 73) #[] #[], .func (.func 74) #[] #[]] 29)) (.cells #[.func (.func 75) #[] #[], .func (.func 78) #[] #[], .func (.func 81) #[] #[], .nilFunc] 35)
    rw [alloc_size] at hh
    exact ⟨(HG4.out.alloc _).alloc _, (((Gr.refl _).alloc _).block (k := v4.heap.size) (by simp only [alloc_size]; omega)).trans (heap_alloc_last v4 _), hh, HX.out.gr ((HG4.out.alloc _).alloc _)⟩
  clear HG HG2 HG3 HG4 HX
  generalize (v4.alloc (.cells #[.func (.func 71) #[] #[], .func (.func 72) #[] #[], .func (.func 73) #[] #[], .func (.func 74) #[] #[]] 29)).alloc (.cells #[.func (.func 75) #[] #[], .func (.func 78) #[] #[], .func (.func 81) #[] #[], .nilFunc] 35) = W at *
  generalize v4.heap.size = b at *
  go_wp2_with (first
    | (go_at_call 16; refine (c1 _ HL.out.sl).out.mono ?_; clear c1; rintro r u1 ⟨rfl, hg⟩; have HL1 := Lib.hid (HL.out.step hg); clear hg)
    | (go_at_call 17; refine (c2 _ HL1.out.sl).out.mono ?_; clear c2; rintro r u2 ⟨rfl, hg⟩; have HL2 := Lib.hid (HL1.out.step hg); clear hg))
  have HQ := Lib.hid HL2.out.c.2
  have HL2d := Lib.hid (HL2.out.step (Gr.refl u2).drew)
  go_region_held3 (fun w' => w'.cell? ⟨b + 1, 0, none⟩ = some (.func (.func 75) #[] #[]) ∧ w'.cell? ⟨b + 1, 1, none⟩ = some (.func (.func 78) #[] #[]) ∧ w'.cell? ⟨b + 1, 2, none⟩ = some (.func (.func 81) #[] #[]) ∧ w'.cell? ⟨b + 1, 3, none⟩ = some .nilFunc) (first | exact HQ.out | assumption)
    (first
      | (go_at_call 19; refine (c3 _ HL2d.out.sl).out.mono ?_; rintro r u3 ⟨A1, cap1, rfl, hown, hg⟩; have HL3 : Hid (LSt A xs b (b + 1) w u3 ∧ SliceAt u3 A1 2 kiCell ys ∧ ys.length ≤ cap1 ∧ cap1 ≤ maxLen) := ⟨HL2d.out.step hg, hown.slice (fun _ => rfl), hown.cap_le.1, hown.cap_le.2⟩; have HQ := Lib.hid HL3.out.1.c.2; clear hown hg)
      | (go_at_call 18; refine (c4 A1 cap1 HL3.out.2.2.1 HL3.out.2.2.2 _ HL3.out.2.1).out.mono ?_; clear c4; rintro r u4 ⟨rfl, hg⟩; have HL4 := Lib.hid (HL3.out.1.step hg); have HQ := Lib.hid HL4.out.c.2; clear hg))
  clear HL1 HL2 HL2d HL3
  clear HQ
  go_wp2_with (first
    | (go_at_call 20; refine (c5 _ HL4.out.sl).out.mono ?_; rintro r u5 ⟨A2, cap2, rfl, hsl, hc1, hc2, hg⟩; have HL5 : Hid (LSt A xs b (b + 1) w u5 ∧ SliceAt u5 A2 4 ceCell zs ∧ zs.length ≤ cap2 ∧ cap2 ≤ maxLen) := ⟨HL4.out.step hg, hsl, hc1, hc2⟩; clear hsl hc1 hc2 hg)
    | (go_at_call 17; refine (c6 A2 cap2 HL5.out.2.2.1 HL5.out.2.2.2 _ HL5.out.2.1).out.mono ?_; clear c6; rintro r u6 ⟨rfl, hg⟩; have HL6 := Lib.hid (HL5.out.1.step hg); clear hg))
  clear HL4 HL5
  have HQ := Lib.hid HL6.out.c
  have HL7 := Lib.hid (HL6.out.step (Gr.refl u6).drew)
  go_region_held3 (fun w' => (w'.cell? ⟨b, 0, none⟩ = some (.func (.func 71) #[] #[]) ∧ w'.cell? ⟨b, 1, none⟩ = some (.func (.func 72) #[] #[]) ∧ w'.cell? ⟨b, 2, none⟩ = some (.func (.func 73) #[] #[]) ∧ w'.cell? ⟨b, 3, none⟩ = some (.func (.func 74) #[] #[])) ∧ w'.cell? ⟨b + 1, 0, none⟩ = some (.func (.func 75) #[] #[]) ∧ w'.cell? ⟨b + 1, 1, none⟩ = some (.func (.func 78) #[] #[]) ∧ w'.cell? ⟨b + 1, 2, none⟩ = some (.func (.func 81) #[] #[]) ∧ w'.cell? ⟨b + 1, 3, none⟩ = some .nilFunc) (first | exact HQ.out | assumption)
    (first
      | (go_at_call 21; refine (c7 _ HL7.out.sl).out.mono ?_; clear c7; rintro r u7 ⟨rfl, hg⟩; have HL8 := Lib.hid (HL7.out.step hg); have HQ := Lib.hid HL8.out.c; clear hg)
      | (go_at_call 22; (with_reducible show Calls _ _ #[_, .bool true] _ _); refine (c8 _ HL8.out.sl).out.mono ?_; clear c8; rintro r u8 ⟨rfl, hg⟩; have HL9 := Lib.hid (HL8.out.step hg); have HQ := Lib.hid HL9.out.c; clear hg)
      | (go_at_call 19; refine (c3 _ HL9.out.sl).out.mono ?_; clear c3; rintro r u9 ⟨A3, cap3, rfl, hown, hg⟩; have HLa : Hid (LSt A xs b (b + 1) w u9 ∧ SliceAt u9 A3 2 kiCell ys ∧ ys.length ≤ cap3 ∧ cap3 ≤ maxLen) := ⟨HL9.out.step hg, hown.slice (fun _ => rfl), hown.cap_le.1, hown.cap_le.2⟩; have HQ := Lib.hid HLa.out.1.c; clear hown hg)
      | (go_at_call 23; refine (c9 A3 cap3 HLa.out.2.2.1 HLa.out.2.2.2 _ HLa.out.2.1).out.mono ?_; clear c9; rintro r ua ⟨rfl, hg⟩; have HLb := Lib.hid (HLa.out.1.step hg); have HQ := Lib.hid HLb.out.c; clear hg)
      | (go_at_call 20; refine (c5 _ HLb.out.sl).out.mono ?_; clear c5; rintro r ub ⟨A4, cap4, rfl, hsl, hc1, hc2, hg⟩; have HLc : Hid (LSt A xs b (b + 1) w ub ∧ SliceAt ub A4 4 ceCell zs ∧ zs.length ≤ cap4 ∧ cap4 ≤ maxLen) := ⟨HLb.out.step hg, hsl, hc1, hc2⟩; have HQ := Lib.hid HLc.out.1.c; clear hsl hc1 hc2 hg)
      | (go_at_call 22; (with_reducible show Calls _ _ #[_, .bool false] _ _); refine (c0 A4 cap4 HLc.out.2.2.1 HLc.out.2.2.2 _ HLc.out.2.1).out.mono ?_; clear c0; rintro r uc ⟨rfl, hg⟩; have HLd := Lib.hid (HLc.out.1.step hg); have HQ := Lib.hid HLd.out.c; clear hg))
  clear HLa HLb HLc HL6 HL7 HL8 HL9
  go_wp2
  go_ret
  exact ⟨rfl, HLd.out.gr⟩
end Go.Proofs.Ytbkcfadbjebbdaa
