/- Layer 6: a branch: where a key is (printed by sl6_gen.py). -/
import Derived.Test.YtmpmfgkabjedpaaMgDo04
import Derived.Test.YtmpmfgkabjedpaaMgDo10
import Derived.Test.YtmpmfgkabjedpaaMgDo14
import Derived.Test.YtmpmfgkabjedpaaMgDo17
import Derived.Test.YtmpmfgkabjedpaaMgDo32
import Derived.Test.YtmpmfgkabjedpaaMgDo33
import Derived.Test.YtmpmfgkabjedpaaMgDo34
namespace Go.Proofs.Ytmpmfgkabjedpaa
open Go.RowKit
set_option linter.unusedVariables false
set_option linter.unusedSimpArgs false
set_option maxRecDepth 100000
set_option maxHeartbeats 2000000
theorem ki_find1 (bs bl bk : Nat) (A : Option Addr) (cap : Nat) (xs : List Ki) (hcap : xs.length ≤ cap) (hcm : cap ≤ maxLen) (key : ByteArray) (i : Nat) (x : Ki) (hi : xs[i]? = some x) (w : World) (hr : w.heap[bs]? = some (.cells #[.func (.func 73) #[] #[], .func (.func 76) #[] #[], .func (.func 79) #[] #[], .nilFunc] 87 (0, 0)))
    (hl : w.cell? ⟨bl, 0, none⟩ = some (.slice A xs.length cap)) (hk : w.cell? ⟨bk, 0, none⟩ = some (.string key)) (hs : SliceAt w A 2 kiCell xs) :
    Calls Try.prog 107 #[.int .i64 i, .pointer (some ⟨bs, 0, none⟩), .pointer (some ⟨bl, 0, none⟩), .pointer (some ⟨bk, 0, none⟩)] w fun e w' => e = .returned (.bool (!Op.bytesLess x.1.toList key.toList)) ∧ Gr w w' := by
  unfold maxLen at hcm
  have hlt : i < xs.length := by
    rcases Nat.lt_or_ge i xs.length with h | h
    · exact h
    · rw [List.getElem?_eq_none h] at hi; cases hi
  rcases hs with h0 | ⟨a, off, rfl, hcell⟩
  · subst h0; simp at hlt
  have hget := hi
  clear hi
  obtain ⟨e0, e1⟩ := x
  have a0 := hcell i _ hget 0 _ rfl
  have a1 := hcell i _ hget 1 _ rfl
  simp only [Nat.add_zero] at a0
  clear hcell hget
  have s0 := row_cell hr 0 _ rfl
  have s1 := row_cell hr 1 _ rfl
  have s2 := row_cell hr 2 _ rfl
  have s3 := row_cell hr 3 _ rfl
  clear hr
  have cK := fun w1 => Lib.hid (sl_keyKid e0 e1 w1)
  have HQ := Lib.hid (And.intro s2 (And.intro hl (And.intro hk (And.intro a0 a1))))
  have hix : (i : Int) < (xs.length : Int) := by omega
  go_enter Try.func107, Try.ntmps107
  go_wp2
  go_region_held3 (fun w' => w'.cell? ⟨bs, 2, none⟩ = some (.func (.func 79) #[] #[]) ∧ w'.cell? ⟨bl, 0, none⟩ = some (.slice (some ⟨a, off, none⟩) xs.length cap) ∧ w'.cell? ⟨bk, 0, none⟩ = some (.string key) ∧ w'.cell? ⟨a, off + i * 2, none⟩ = some (.string e0) ∧ w'.cell? ⟨a, off + i * 2 + 1, none⟩ = some (.int .u32 (e1 : Nat))) (first | exact HQ.out | assumption)
    ((go_at_call 79; refine (cK _).out.mono ?_; clear cK; rintro r v1 ⟨rfl, hg⟩; have HG : Hid (Gr w v1) := (Gr.refl w).drew.trans hg; have HQ := Lib.hid (And.intro (HG.out.cells s2) (And.intro (HG.out.cells hl) (And.intro (HG.out.cells hk) (And.intro (HG.out.cells a0) (HG.out.cells a1))))); clear hg))
  go_wp2
  go_ret
  exact ⟨rfl, HG.out⟩
theorem ki_find (A : Option Addr) (cap : Nat) (xs : List Ki) (hcap : xs.length ≤ cap) (hcm : cap ≤ maxLen) (key : ByteArray) (hmono : ∀ (a b : Nat) (x y : Ki), a ≤ b → xs[a]? = some x → xs[b]? = some y → Op.bytesLess x.1.toList key.toList = false → Op.bytesLess y.1.toList key.toList = false) (hlen : xs.length < 4611686018427387904) (w : World) (hs : SliceAt w A 2 kiCell xs) :
    Calls Try.prog 66 #[.agg #[.func (.func 73) #[] #[], .func (.func 76) #[] #[], .func (.func 79) #[] #[], .nilFunc], .slice A xs.length cap, .string key] w fun e w' => e = .returned (.tuple #[.int .i64 (fdAt (fun x : Ki => x.1) xs key : Nat), .bool (fdIs (fun x : Ki => x.1) xs key)]) ∧ Gr w w' := by
  have HW : Hid (Gr w (((w.alloc (.cells #[.func (.func 73) #[] #[], .func (.func 76) #[] #[], .func (.func 79) #[] #[], .nilFunc] 87)).alloc (.cells #[.slice A xs.length cap] 25)).alloc (.cells #[.string key] 9))) := (((Gr.refl w).alloc _).alloc _).alloc _
  have HR : Hid ((((w.alloc (.cells #[.func (.func 73) #[] #[], .func (.func 76) #[] #[], .func (.func 79) #[] #[], .nilFunc] 87)).alloc (.cells #[.slice A xs.length cap] 25)).alloc (.cells #[.string key] 9)).heap[w.heap.size]? = some (.cells #[.func (.func 73) #[] #[], .func (.func 76) #[] #[], .func (.func 79) #[] #[], .nilFunc] 87 (0, 0)) ∧ (((w.alloc (.cells #[.func (.func 73) #[] #[], .func (.func 76) #[] #[], .func (.func 79) #[] #[], .nilFunc] 87)).alloc (.cells #[.slice A xs.length cap] 25)).alloc (.cells #[.string key] 9)).heap[w.heap.size + 1]? = some (.cells #[.slice A xs.length cap] 25 (0, 0)) ∧ (((w.alloc (.cells #[.func (.func 73) #[] #[], .func (.func 76) #[] #[], .func (.func 79) #[] #[], .nilFunc] 87)).alloc (.cells #[.slice A xs.length cap] 25)).alloc (.cells #[.string key] 9)).heap[w.heap.size + 1 + 1]? = some (.cells #[.string key] 9 (0, 0))) := heap_alloc3 w _ _ _
  have HS := Lib.hid hs
  have HC := Lib.hid hcm
  unfold maxLen at hcm
  obtain ⟨p, hp⟩ : ∃ p : Nat → Bool, ∀ i x, xs[i]? = some x → p i = !Op.bytesLess x.1.toList key.toList := ⟨fun i => match xs[i]? with | some x => !Op.bytesLess x.1.toList key.toList | none => true, fun i x hx => by simp only [hx]⟩
  have HM : Hid (∀ a b, a ≤ b → b < xs.length → p a = true → p b = true) := by
    intro a b hab hb h
    have ha : a < xs.length := by omega
    rw [hp a _ (List.getElem?_eq_getElem ha)] at h
    rw [hp b _ (List.getElem?_eq_getElem hb)]
    rw [hmono a b _ _ hab (List.getElem?_eq_getElem ha) (List.getElem?_eq_getElem hb) (by simpa using h)]; rfl
  have HP := Lib.hid hp
  clear hs hmono hp
  have cN := fun w1 => Lib.hid (ki_none w1)
  go_enter Try.func66, Try.ntmps66
  go_wp2_with (fail)
  generalize (((w.alloc (.cells #[.func (.func 73) #[] #[], .func (.func 76) #[] #[], .func (.func 79) #[] #[], .nilFunc] 87)).alloc (.cells #[.slice A xs.length cap] 25)).alloc (.cells #[.string key] 9)) = W at *
  generalize w.heap.size = g at *
  go_wp2_with (go_at_call 92; refine (cN _).out.mono ?_; clear cN; rintro r v1 ⟨rfl, hg⟩; have HG : Hid (Gr w v1) := HW.out.trans hg; have HV : Hid (v1.heap[g]? = some (.cells #[.func (.func 73) #[] #[], .func (.func 76) #[] #[], .func (.func 79) #[] #[], .nilFunc] 87 (0, 0)) ∧ v1.heap[g + 1]? = some (.cells #[.slice A xs.length cap] 25 (0, 0)) ∧ v1.heap[g + 1 + 1]? = some (.cells #[.string key] 9 (0, 0))) := ⟨(hg.block (lt_of_row HR.out.1)).trans HR.out.1, (hg.block (lt_of_row HR.out.2.1)).trans HR.out.2.1, (hg.block (lt_of_row HR.out.2.2)).trans HR.out.2.2⟩; clear hg; have l1 := row_cell HV.out.2.1 0 _ rfl)
  have hfc : ∀ (V : World) (i : Nat), Gr v1 V → i < xs.length → Calls Try.prog 107 (#[.int .i64 i] ++ #[.pointer (some ⟨g, 0, none⟩), .pointer (some ⟨g + 1, 0, none⟩), .pointer (some ⟨g + 1 + 1, 0, none⟩)]) V fun e w' => e = .returned (.bool (p i)) ∧ Gr V w' := by
    intro V i hV hi
    have hget := List.getElem?_eq_getElem hi
    rw [HP.out i _ hget]
    exact ki_find1 g (g + 1) (g + 1 + 1) A cap xs hcap HC.out key i _ hget V ((hV.block (lt_of_row HV.out.1)).trans HV.out.1) (hV.cells (row_cell HV.out.2.1 0 _ rfl)) (hV.cells (row_cell HV.out.2.2 0 _ rfl)) (HS.out.gr (HG.out.trans hV))
  have cS := Lib.hid (so_search 107 #[.pointer (some ⟨g, 0, none⟩), .pointer (some ⟨g + 1, 0, none⟩), .pointer (some ⟨g + 1 + 1, 0, none⟩)] xs.length p v1 (fun _ _ => by kernel_rfl) hlen hfc HM.out)
  clear hfc
  go_wp2_with (go_at_call 103; refine cS.out.mono ?_; clear cS; rintro r v2 ⟨k, rfl, hk, h1, h2, hg⟩; have HK : Hid (k = fdAt (fun x : Ki => x.1) xs key) := fdAt_of _ _ _ p k hk HP.out h1 h2; have HG2 : Hid (Gr w v2) := HG.out.trans hg; have HV2 : Hid (v2.heap[g]? = some (.cells #[.func (.func 73) #[] #[], .func (.func 76) #[] #[], .func (.func 79) #[] #[], .nilFunc] 87 (0, 0)) ∧ v2.heap[g + 1]? = some (.cells #[.slice A xs.length cap] 25 (0, 0)) ∧ v2.heap[g + 1 + 1]? = some (.cells #[.string key] 9 (0, 0))) := ⟨(hg.block (lt_of_row HV.out.1)).trans HV.out.1, (hg.block (lt_of_row HV.out.2.1)).trans HV.out.2.1, (hg.block (lt_of_row HV.out.2.2)).trans HV.out.2.2⟩; clear hg h1 h2 l1 HM HP)
  have l1 := row_cell HV2.out.2.1 0 _ rfl
  have l2 := row_cell HV2.out.2.2 0 _ rfl
  have s0 := row_cell HV2.out.1 0 _ rfl
  have s1 := row_cell HV2.out.1 1 _ rfl
  have s2 := row_cell HV2.out.1 2 _ rfl
  have s3 := row_cell HV2.out.1 3 _ rfl
  by_cases hlt : k < xs.length
  · rcases HS.out with h0 | ⟨a, off, rfl, hcell⟩
    · subst h0; simp at hlt
    have hget := List.getElem?_eq_getElem hlt
    have HI : Hid (fdIs (fun x : Ki => x.1) xs key = (xs[k].1.toList == key.toList)) := by
      unfold Hid fdIs; rw [← HK.out, hget]
    generalize xs[k] = x at *
    obtain ⟨e0, e1⟩ := x
    have a0 := HG2.out.cells (hcell k _ hget 0 _ rfl)
    have a1 := HG2.out.cells (hcell k _ hget 1 _ rfl)
    simp only [Nat.add_zero] at a0
    have HC2 := Lib.hid (And.intro hcell hget)
    clear hcell hget
    have cK := fun w1 => Lib.hid (sl_keyKid e0 e1 w1)
    have hix : (k : Int) < (xs.length : Int) := by omega
    have HQ := Lib.hid (And.intro s2 (And.intro l1 (And.intro l2 (And.intro a0 a1))))
    go_region_held3 (fun w' => w'.cell? ⟨g, 2, none⟩ = some (.func (.func 79) #[] #[]) ∧ w'.cell? ⟨g + 1, 0, none⟩ = some (.slice (some ⟨a, off, none⟩) xs.length cap) ∧ w'.cell? ⟨g + 1 + 1, 0, none⟩ = some (.string key) ∧ w'.cell? ⟨a, off + k * 2, none⟩ = some (.string e0) ∧ w'.cell? ⟨a, off + k * 2 + 1, none⟩ = some (.int .u32 (e1 : Nat))) (first | exact HQ.out | assumption)
      ((go_at_call 79; refine (cK _).out.mono ?_; clear cK; rintro r v3 ⟨rfl, hg⟩; have HG3 : Hid (Gr v2 v3) := (Gr.refl v2).drew.trans hg; have HQ := Lib.hid (And.intro (HG3.out.cells s2) (And.intro (HG3.out.cells l1) (And.intro (HG3.out.cells l2) (And.intro (HG3.out.cells a0) (HG3.out.cells a1))))); clear hg))
    go_wp2
    go_ret2
    exact ⟨(by rw [← HK.out, HI.out]; try rfl), HG2.out.trans HG3.out⟩
  · have hd : decide ((k : Int) < (xs.length : Int)) = false := by simp; omega
    have HI : Hid (fdIs (fun x : Ki => x.1) xs key = false) := by
      unfold Hid fdIs; rw [← HK.out, List.getElem?_eq_none (by omega)]
    go_quiet (fail)
    go_wp2
    go_ret2
    exact ⟨(by rw [← HK.out, HI.out]; try rfl), HG2.out.trans ((Gr.refl _).drewN _)⟩
end Go.Proofs.Ytmpmfgkabjedpaa
namespace Go.Proofs.Ytmpmfgkabjedpaa
open Go.RowKit
set_option linter.unusedVariables false
set_option linter.unusedSimpArgs false
set_option maxRecDepth 100000
set_option maxHeartbeats 4000000
theorem ki_placed (A : Option Addr) (cap : Nat) (xs : List Ki) (hcap : xs.length ≤ cap) (hcm : cap ≤ maxLen) (hl : xs.length ≤ 3999) (hr : Rises (fun x : Ki => x.1) xs) (a0 : ByteArray) (a1 : Nat) (w : World) (hs : SliceAt w A 2 kiCell xs) :
    Calls Try.prog 64 #[.agg #[.func (.func 73) #[] #[], .func (.func 76) #[] #[], .func (.func 79) #[] #[], .nilFunc], .slice A xs.length cap, .agg #[.string a0, .int .u32 (a1 : Nat)]] w fun r w' => ∃ A' cap', r = .returned (.slice A' (plc (fun x : Ki => x.1) xs (a0, a1)).length cap') ∧ Own w' w.heap.size 61 2 kiCell A' cap' (plc (fun x : Ki => x.1) xs (a0, a1)) ∧ Gr w w' := by
  have cF := fun w1 (h : Gr w w1) => Lib.hid (ki_find A cap xs hcap hcm a0 (fun a b x y hab hx hy hb => hr.mono a0 a b x y hab hx hy hb) (by omega) w1 (hs.gr h))
  have cC := fun w1 (h : Gr w w1) => Lib.hid (ki_clone A xs.length cap xs rfl hcap hcm (by omega) w1 (hs.gr h))
  have hat := fdAt_le (fun x : Ki => x.1) xs a0
  have hisl : fdIs (fun x : Ki => x.1) xs a0 = true → fdAt (fun x : Ki => x.1) xs a0 < xs.length := by
    intro h
    unfold fdIs at h
    rcases Nat.lt_or_ge (fdAt (fun x : Ki => x.1) xs a0) xs.length with h1 | h1
    · exact h1
    · rw [List.getElem?_eq_none h1] at h; cases h
  have hr0 := heap_alloc_last w (.cells #[.func (.func 73) #[] #[], .func (.func 76) #[] #[], .func (.func 79) #[] #[], .nilFunc] 87)
  have HW : Hid (Gr w (w.alloc (.cells #[.func (.func 73) #[] #[], .func (.func 76) #[] #[], .func (.func 79) #[] #[], .nilFunc] 87)) ∧ (w.alloc (.cells #[.func (.func 73) #[] #[], .func (.func 76) #[] #[], .func (.func 79) #[] #[], .nilFunc] 87)).heap[w.heap.size]? = some (.cells #[.func (.func 73) #[] #[], .func (.func 76) #[] #[], .func (.func 79) #[] #[], .nilFunc] 87 (0, 0))) := ⟨(Gr.refl w).alloc _, hr0⟩
  clear hr0 hs hr
  unfold plc
  by_cases hok : fdIs (fun x : Ki => x.1) xs a0 = true
  · rw [hok] at cF
    have hlt := hisl hok
    have hif : (if fdIs (fun x : Ki => x.1) xs ((a0, a1) : Ki).1 = true then xs.set (fdAt (fun x : Ki => x.1) xs ((a0, a1) : Ki).1) (a0, a1) else xs.take (fdAt (fun x : Ki => x.1) xs ((a0, a1) : Ki).1) ++ (a0, a1) :: xs.drop (fdAt (fun x : Ki => x.1) xs ((a0, a1) : Ki).1)) = xs.set (fdAt (fun x : Ki => x.1) xs a0) (a0, a1) := if_pos hok
    rw [hif]
    clear hif hisl hok
    generalize fdAt (fun x : Ki => x.1) xs a0 = i at *
    have hpos : 0 < xs.length := by omega
    go_enter Try.func64, Try.ntmps64
    go_wp2
    have HU := Lib.hid (pl_world w #[.func (.func 73) #[] #[], .func (.func 76) #[] #[], .func (.func 79) #[] #[], .nilFunc] #[.string a0, .int .u32 (a1 : Nat)] 87 61)
    generalize (w.alloc (.cells #[.func (.func 73) #[] #[], .func (.func 76) #[] #[], .func (.func 79) #[] #[], .nilFunc] 87)).alloc (.cells #[.string a0, .int .u32 (a1 : Nat)] 61) = U at *
    generalize hgw : w.heap.size = g at *
    have HQ : Hid (U.cell? ⟨g, 0, none⟩ = some (.func (.func 73) #[] #[]) ∧ U.cell? ⟨g, 1, none⟩ = some (.func (.func 76) #[] #[]) ∧ U.cell? ⟨g, 2, none⟩ = some (.func (.func 79) #[] #[]) ∧ U.cell? ⟨g, 3, none⟩ = some (.nilFunc) ∧ U.cell? ⟨g + 1, 0, none⟩ = some (.string a0) ∧ U.cell? ⟨g + 1, 1, none⟩ = some (.int .u32 (a1 : Nat))) := ⟨row_cell HU.out.2.1 0 _ rfl, row_cell HU.out.2.1 1 _ rfl, row_cell HU.out.2.1 2 _ rfl, row_cell HU.out.2.1 3 _ rfl, row_cell HU.out.2.2 0 _ rfl, row_cell HU.out.2.2 1 _ rfl⟩
    go_region_held3 (fun w' => w'.cell? ⟨g, 0, none⟩ = some (.func (.func 73) #[] #[]) ∧ w'.cell? ⟨g, 1, none⟩ = some (.func (.func 76) #[] #[]) ∧ w'.cell? ⟨g, 2, none⟩ = some (.func (.func 79) #[] #[]) ∧ w'.cell? ⟨g, 3, none⟩ = some (.nilFunc) ∧ w'.cell? ⟨g + 1, 0, none⟩ = some (.string a0) ∧ w'.cell? ⟨g + 1, 1, none⟩ = some (.int .u32 (a1 : Nat))) (first | exact HQ.out | assumption)
      (first
        | (go_at_call 79; refine (sl_keyKid a0 a1 _).mono ?_; rintro r v1 ⟨rfl, hg⟩; have hd := (Gr.refl U).drew.trans hg; have HG1 := Lib.hid (HU.out.1.trans hd); have HQ : Hid (v1.cell? ⟨g, 0, none⟩ = some (.func (.func 73) #[] #[]) ∧ v1.cell? ⟨g, 1, none⟩ = some (.func (.func 76) #[] #[]) ∧ v1.cell? ⟨g, 2, none⟩ = some (.func (.func 79) #[] #[]) ∧ v1.cell? ⟨g, 3, none⟩ = some (.nilFunc) ∧ v1.cell? ⟨g + 1, 0, none⟩ = some (.string a0) ∧ v1.cell? ⟨g + 1, 1, none⟩ = some (.int .u32 (a1 : Nat))) := ⟨hd.cells HQ.out.1, hd.cells HQ.out.2.1, hd.cells HQ.out.2.2.1, hd.cells HQ.out.2.2.2.1, hd.cells HQ.out.2.2.2.2.1, hd.cells HQ.out.2.2.2.2.2⟩; clear hg hd)
        | (go_at_call 66; refine (cF _ HG1.out).out.mono ?_; clear cF; rintro r v2 ⟨rfl, hg⟩; have HG2 := Lib.hid (HG1.out.trans hg); have HQ : Hid (v2.cell? ⟨g, 0, none⟩ = some (.func (.func 73) #[] #[]) ∧ v2.cell? ⟨g, 1, none⟩ = some (.func (.func 76) #[] #[]) ∧ v2.cell? ⟨g, 2, none⟩ = some (.func (.func 79) #[] #[]) ∧ v2.cell? ⟨g, 3, none⟩ = some (.nilFunc) ∧ v2.cell? ⟨g + 1, 0, none⟩ = some (.string a0) ∧ v2.cell? ⟨g + 1, 1, none⟩ = some (.int .u32 (a1 : Nat))) := ⟨hg.cells HQ.out.1, hg.cells HQ.out.2.1, hg.cells HQ.out.2.2.1, hg.cells HQ.out.2.2.2.1, hg.cells HQ.out.2.2.2.2.1, hg.cells HQ.out.2.2.2.2.2⟩; clear hg))
    go_wp2_with (first
      | (go_at_call 41; refine (cC _ HG2.out).out.mono ?_; clear cC; rintro r v3 ⟨A2, cap2, rfl, ho, hg⟩; have HG3 := Lib.hid (HG2.out.trans hg); have hz := HG2.out.size; obtain ⟨q, rfl⟩ := ho.blk (by omega); have HB := Lib.hid (show g + 1 < q from Nat.lt_of_lt_of_le (block_lt_of_cell HQ.out.2.2.2.2.1) (by have h9 := (ho.lt (g := q) rfl).2; exact h9)); have ho2 := ho.mono hz; obtain ⟨cur, hrow, _, hnc, _, hcs, _⟩ := ho2.rowOf; have HO := Lib.hid ho2; have HQ3 : Hid (v3.cell? ⟨g + 1, 0, none⟩ = some (.string a0) ∧ v3.cell? ⟨g + 1, 1, none⟩ = some (.int .u32 (a1 : Nat))) := ⟨hg.cells HQ.out.2.2.2.2.1, hg.cells HQ.out.2.2.2.2.2⟩; have x0 := HQ3.out.1; have x1 := HQ3.out.2; obtain ⟨c0, hc0⟩ := row_cellD hrow hcs.symm (i * 2) (by omega); have z0 := frozen_of_row _ _ (i * 2) _ _ hrow; obtain ⟨c1, hc1⟩ := row_cellD hrow hcs.symm (i * 2 + 1) (by omega); have z1 := frozen_of_row _ _ (i * 2 + 1) _ _ hrow; clear hg ho ho2 hz hrow))
    go_ret
    have hgq : w.heap.size ≤ q := by have := HB.out; omega
    exact ⟨some ⟨q, 0, none⟩, cap2, by rw [List.length_set]; rfl, HO.out.setAt kiCell_len i hlt (a0, a1), (((Ch.refl q v3).setCell (i * 2) (.string a0)).setCell (i * 2 + 1) (.int .u32 (a1 : Nat))).gr HG3.out hgq⟩
  · have hok2 : fdIs (fun x : Ki => x.1) xs a0 = false := by simpa using hok
    rw [hok2] at cF
    have hif : (if fdIs (fun x : Ki => x.1) xs ((a0, a1) : Ki).1 = true then xs.set (fdAt (fun x : Ki => x.1) xs ((a0, a1) : Ki).1) (a0, a1) else xs.take (fdAt (fun x : Ki => x.1) xs ((a0, a1) : Ki).1) ++ (a0, a1) :: xs.drop (fdAt (fun x : Ki => x.1) xs ((a0, a1) : Ki).1)) = xs.take (fdAt (fun x : Ki => x.1) xs a0) ++ (a0, a1) :: xs.drop (fdAt (fun x : Ki => x.1) xs a0) := if_neg hok
    rw [hif]
    clear hif hisl hok hok2
    generalize fdAt (fun x : Ki => x.1) xs a0 = i at *
    go_enter Try.func64, Try.ntmps64
    go_wp2
    have HU := Lib.hid (pl_world w #[.func (.func 73) #[] #[], .func (.func 76) #[] #[], .func (.func 79) #[] #[], .nilFunc] #[.string a0, .int .u32 (a1 : Nat)] 87 61)
    generalize (w.alloc (.cells #[.func (.func 73) #[] #[], .func (.func 76) #[] #[], .func (.func 79) #[] #[], .nilFunc] 87)).alloc (.cells #[.string a0, .int .u32 (a1 : Nat)] 61) = U at *
    generalize hgw : w.heap.size = g at *
    have HQ : Hid (U.cell? ⟨g, 0, none⟩ = some (.func (.func 73) #[] #[]) ∧ U.cell? ⟨g, 1, none⟩ = some (.func (.func 76) #[] #[]) ∧ U.cell? ⟨g, 2, none⟩ = some (.func (.func 79) #[] #[]) ∧ U.cell? ⟨g, 3, none⟩ = some (.nilFunc) ∧ U.cell? ⟨g + 1, 0, none⟩ = some (.string a0) ∧ U.cell? ⟨g + 1, 1, none⟩ = some (.int .u32 (a1 : Nat))) := ⟨row_cell HU.out.2.1 0 _ rfl, row_cell HU.out.2.1 1 _ rfl, row_cell HU.out.2.1 2 _ rfl, row_cell HU.out.2.1 3 _ rfl, row_cell HU.out.2.2 0 _ rfl, row_cell HU.out.2.2 1 _ rfl⟩
    go_region_held3 (fun w' => w'.cell? ⟨g, 0, none⟩ = some (.func (.func 73) #[] #[]) ∧ w'.cell? ⟨g, 1, none⟩ = some (.func (.func 76) #[] #[]) ∧ w'.cell? ⟨g, 2, none⟩ = some (.func (.func 79) #[] #[]) ∧ w'.cell? ⟨g, 3, none⟩ = some (.nilFunc) ∧ w'.cell? ⟨g + 1, 0, none⟩ = some (.string a0) ∧ w'.cell? ⟨g + 1, 1, none⟩ = some (.int .u32 (a1 : Nat))) (first | exact HQ.out | assumption)
      (first
        | (go_at_call 79; refine (sl_keyKid a0 a1 _).mono ?_; rintro r v1 ⟨rfl, hg⟩; have hd := (Gr.refl U).drew.trans hg; have HG1 := Lib.hid (HU.out.1.trans hd); have HQ : Hid (v1.cell? ⟨g, 0, none⟩ = some (.func (.func 73) #[] #[]) ∧ v1.cell? ⟨g, 1, none⟩ = some (.func (.func 76) #[] #[]) ∧ v1.cell? ⟨g, 2, none⟩ = some (.func (.func 79) #[] #[]) ∧ v1.cell? ⟨g, 3, none⟩ = some (.nilFunc) ∧ v1.cell? ⟨g + 1, 0, none⟩ = some (.string a0) ∧ v1.cell? ⟨g + 1, 1, none⟩ = some (.int .u32 (a1 : Nat))) := ⟨hd.cells HQ.out.1, hd.cells HQ.out.2.1, hd.cells HQ.out.2.2.1, hd.cells HQ.out.2.2.2.1, hd.cells HQ.out.2.2.2.2.1, hd.cells HQ.out.2.2.2.2.2⟩; clear hg hd)
        | (go_at_call 66; refine (cF _ HG1.out).out.mono ?_; clear cF; rintro r v2 ⟨rfl, hg⟩; have HG2 := Lib.hid (HG1.out.trans hg); have HQ : Hid (v2.cell? ⟨g, 0, none⟩ = some (.func (.func 73) #[] #[]) ∧ v2.cell? ⟨g, 1, none⟩ = some (.func (.func 76) #[] #[]) ∧ v2.cell? ⟨g, 2, none⟩ = some (.func (.func 79) #[] #[]) ∧ v2.cell? ⟨g, 3, none⟩ = some (.nilFunc) ∧ v2.cell? ⟨g + 1, 0, none⟩ = some (.string a0) ∧ v2.cell? ⟨g + 1, 1, none⟩ = some (.int .u32 (a1 : Nat))) := ⟨hg.cells HQ.out.1, hg.cells HQ.out.2.1, hg.cells HQ.out.2.2.1, hg.cells HQ.out.2.2.2.1, hg.cells HQ.out.2.2.2.2.1, hg.cells HQ.out.2.2.2.2.2⟩; clear hg))
    go_wp2_with (first
      | (go_at_call 41; refine (cC _ HG2.out).out.mono ?_; clear cC; rintro r v3 ⟨A2, cap2, rfl, ho, hg⟩; have HG3 := Lib.hid (HG2.out.trans hg); have hz := HG2.out.size; have HO := Lib.hid (ho.mono hz); have HQ3 : Hid (v3.cell? ⟨g + 1, 0, none⟩ = some (.string a0) ∧ v3.cell? ⟨g + 1, 1, none⟩ = some (.int .u32 (a1 : Nat))) := ⟨hg.cells HQ.out.2.2.2.2.1, hg.cells HQ.out.2.2.2.2.2⟩; have x0 := HQ3.out.1; have x1 := HQ3.out.2; clear hg ho hz)
      | (go_at_call 106; refine (ki_insert A2 cap2 xs i hat (by omega) (a0, a1) _ w.heap.size w _ (HG3.out.alloc _) (Nat.le_refl _) (HG3.out.alloc _).size (HO.out.gr ((Gr.refl _).alloc _)) (heap_alloc_last _ _) (fun he => Nat.lt_irrefl _ (HO.out.lt he).1) HG3.out.size).mono ?_; rintro r v4 ⟨A3, cap3, rfl, ho, hg⟩; have HE := Lib.hid (And.intro ho hg); clear ho hg))
    have hln : (xs.take i ++ ((a0, a1) : Ki) :: xs.drop i).length = xs.length + 1 := by simp; omega
    go_ret
    exact ⟨A3, cap3, by rw [hln]; rfl, HE.out.1, HE.out.2⟩
end Go.Proofs.Ytmpmfgkabjedpaa
namespace Go.Proofs.Ytmpmfgkabjedpaa
open Go.RowKit
set_option linter.unusedVariables false
set_option linter.unusedSimpArgs false
set_option maxRecDepth 100000
set_option maxHeartbeats 2000000
theorem kids_world (w : World) (a b : Array Value) (t t2 : TypeId) : Gr w ((w.alloc (.cells a t)).alloc (.cells b t2)) ∧ ((w.alloc (.cells a t)).alloc (.cells b t2)).heap[w.heap.size]? = some (.cells a t (0, 0)) ∧ ((w.alloc (.cells a t)).alloc (.cells b t2)).heap[w.heap.size + 1]? = some (.cells b t2 (0, 0)) := pl_world w a b t t2
/-- has, of a branch -/
theorem ki_has (v : Value) (ys : List Ki) (hl : ys.length ≤ 4000) (at_ : Int) (hat : I64 at_) (w : World) (h : KiAt w v ys) :
    Calls Try.prog 63 #[v, .int .i64 at_] w fun r w' => r = .returned (.bool (decide (0 ≤ at_ ∧ at_ < (ys.length : Int)))) ∧ Gr w w' := by
  obtain ⟨A, cap, rfl, hs, h1, h2⟩ := h
  clear hs
  have HW : Hid (Gr w (w.alloc (.cells #[.bool false, .slice none 0 0, .slice A ys.length cap] 27))) := (Gr.refl w).alloc _
  by_cases h0 : 0 ≤ at_
  · by_cases h3 : at_ < (ys.length : Int)
    · have hd : decide (0 ≤ at_ ∧ at_ < (ys.length : Int)) = true := decide_eq_true ⟨h0, h3⟩
      rw [hd]
      clear hd
      go_enter Try.func63, Try.ntmps63
      go_wp2
      go_ret
      exact ⟨rfl, HW.out⟩
    · have hd : decide (0 ≤ at_ ∧ at_ < (ys.length : Int)) = false := decide_eq_false (fun h => h3 h.2)
      rw [hd]
      clear hd
      go_enter Try.func63, Try.ntmps63
      go_wp2
      go_ret
      exact ⟨rfl, HW.out⟩
  · have hd : decide (0 ≤ at_ ∧ at_ < (ys.length : Int)) = false := decide_eq_false (fun h => h0 h.1)
    rw [hd]
    clear hd
    go_enter Try.func63, Try.ntmps63
    go_wp2
    go_ret
    exact ⟨rfl, HW.out⟩
theorem lf_has (v : Value) (xs : List Ce) (at_ : Int) (w : World) (h : LfAt w v xs) :
    Calls Try.prog 63 #[v, .int .i64 at_] w fun r w' => r = .returned (.bool false) ∧ Gr w w' := by
  obtain ⟨A, cap, rfl, hs, h1, h2⟩ := h
  clear hs
  have HW : Hid (Gr w (w.alloc (.cells #[.bool true, .slice A xs.length cap, .slice none 0 0] 27))) := (Gr.refl w).alloc _
  go_enter Try.func63, Try.ntmps63
  go_wp2
  go_ret
  exact ⟨rfl, HW.out⟩
theorem lf_route (v : Value) (xs : List Ce) (key : ByteArray) (w : World) (h : LfAt w v xs) :
    Calls Try.prog 33 #[v, .string key] w fun r w' => r = .returned (.int .i64 0) ∧ Gr w w' := by
  obtain ⟨A, cap, rfl, hs, h1, h2⟩ := h
  clear hs
  have HW : Hid (Gr w (w.alloc (.cells #[.bool true, .slice A xs.length cap, .slice none 0 0] 27))) := (Gr.refl w).alloc _
  go_enter Try.func33, Try.ntmps33
  go_wp2
  go_ret
  exact ⟨rfl, HW.out⟩
/-- the kid that a key is under -/
def rtAt (ys : List Ki) (key : ByteArray) : Nat := if fdIs (fun x : Ki => x.1) ys key = true then fdAt (fun x : Ki => x.1) ys key else fdAt (fun x : Ki => x.1) ys key - 1
theorem ki_route (v : Value) (ys : List Ki) (hl : ys.length ≤ 4000) (hr : Rises (fun x : Ki => x.1) ys) (key : ByteArray) (w : World) (h : KiAt w v ys) :
    Calls Try.prog 33 #[v, .string key] w fun r w' => r = .returned (.int .i64 ((rtAt ys key : Nat) : Int)) ∧ Gr w w' := by
  obtain ⟨A, cap, rfl, hs, h1, h2⟩ := h
  have cF := fun w1 (hg : Gr w w1) => Lib.hid (ki_find A cap ys h1 h2 key (fun a b x y hab hx hy hb => hr.mono key a b x y hab hx hy hb) (by omega) w1 (hs.gr hg))
  have hat := fdAt_le (fun x : Ki => x.1) ys key
  clear hs hr
  have HU : Hid (Gr w (w.alloc (.cells #[.bool false, .slice none 0 0, .slice A ys.length cap] 27)) ∧ (w.alloc (.cells #[.bool false, .slice none 0 0, .slice A ys.length cap] 27)).heap[w.heap.size]? = some (.cells #[.bool false, .slice none 0 0, .slice A ys.length cap] 27 (0, 0))) := ⟨(Gr.refl w).alloc _, heap_alloc_last w _⟩
  unfold rtAt
  by_cases hok : fdIs (fun x : Ki => x.1) ys key = true
  · rw [hok] at cF
    rw [if_pos hok]
    clear hok
    generalize fdAt (fun x : Ki => x.1) ys key = i at *
    go_enter Try.func33, Try.ntmps33
    go_wp2
    generalize w.alloc (.cells #[.bool false, .slice none 0 0, .slice A ys.length cap] 27) = U at *
    generalize w.heap.size = g at *
    have HQ : Hid (U.cell? ⟨g, 2, none⟩ = some (.slice A ys.length cap)) := row_cell HU.out.2 2 _ rfl
    go_region_held3 (fun w' => w'.cell? ⟨g, 2, none⟩ = some (.slice A ys.length cap)) (first | exact HQ.out | assumption)
      (first
        | (go_at_call 40; refine (sl_kids _).mono ?_; rintro r v1 ⟨rfl, hg⟩; have HG1 := Lib.hid (HU.out.1.trans ((Gr.refl U).drew.trans hg)); have HQ : Hid (v1.cell? ⟨g, 2, none⟩ = some (.slice A ys.length cap)) := ((Gr.refl U).drew.trans hg).cells HQ.out; clear hg)
        | (go_at_call 66; refine (cF _ HG1.out).out.mono ?_; clear cF; rintro r v2 ⟨rfl, hg⟩; have HG2 := Lib.hid (HG1.out.trans hg); have HQ : Hid (v2.cell? ⟨g, 2, none⟩ = some (.slice A ys.length cap)) := hg.cells HQ.out; clear hg))
    go_wp2
    go_ret
    exact ⟨rfl, HG2.out⟩
  · have hok2 : fdIs (fun x : Ki => x.1) ys key = false := by simpa using hok
    rw [hok2] at cF
    rw [if_neg hok]
    clear hok hok2
    generalize fdAt (fun x : Ki => x.1) ys key = i at *
    have hw1 : IntKind.i64.wrap ((i : Int) - 1) = (i : Int) - 1 := by rw [IntKind.wrap_i64]; omega
    by_cases h0 : i = 0
    · subst h0
      go_enter Try.func33, Try.ntmps33
      go_wp2
      generalize w.alloc (.cells #[.bool false, .slice none 0 0, .slice A ys.length cap] 27) = U at *
      generalize w.heap.size = g at *
      have HQ : Hid (U.cell? ⟨g, 2, none⟩ = some (.slice A ys.length cap)) := row_cell HU.out.2 2 _ rfl
      go_region_held3 (fun w' => w'.cell? ⟨g, 2, none⟩ = some (.slice A ys.length cap)) (first | exact HQ.out | assumption)
        (first
          | (go_at_call 40; refine (sl_kids _).mono ?_; rintro r v1 ⟨rfl, hg⟩; have HG1 := Lib.hid (HU.out.1.trans ((Gr.refl U).drew.trans hg)); have HQ : Hid (v1.cell? ⟨g, 2, none⟩ = some (.slice A ys.length cap)) := ((Gr.refl U).drew.trans hg).cells HQ.out; clear hg)
          | (go_at_call 66; refine (cF _ HG1.out).out.mono ?_; clear cF; rintro r v2 ⟨rfl, hg⟩; have HG2 := Lib.hid (HG1.out.trans hg); have HQ : Hid (v2.cell? ⟨g, 2, none⟩ = some (.slice A ys.length cap)) := hg.cells HQ.out; clear hg))
      go_wp2
      all_goals (go_ret; exact ⟨rfl, HG2.out⟩)
    · have hm : ((i - 1 : Nat) : Int) = (i : Int) - 1 := by omega
      rw [hm]
      have hmx : max (0 : Int) ((i : Int) - 1) = (i : Int) - 1 := by omega
      go_enter Try.func33, Try.ntmps33
      go_wp2
      generalize w.alloc (.cells #[.bool false, .slice none 0 0, .slice A ys.length cap] 27) = U at *
      generalize w.heap.size = g at *
      have HQ : Hid (U.cell? ⟨g, 2, none⟩ = some (.slice A ys.length cap)) := row_cell HU.out.2 2 _ rfl
      go_region_held3 (fun w' => w'.cell? ⟨g, 2, none⟩ = some (.slice A ys.length cap)) (first | exact HQ.out | assumption)
        (first
          | (go_at_call 40; refine (sl_kids _).mono ?_; rintro r v1 ⟨rfl, hg⟩; have HG1 := Lib.hid (HU.out.1.trans ((Gr.refl U).drew.trans hg)); have HQ : Hid (v1.cell? ⟨g, 2, none⟩ = some (.slice A ys.length cap)) := ((Gr.refl U).drew.trans hg).cells HQ.out; clear hg)
          | (go_at_call 66; refine (cF _ HG1.out).out.mono ?_; clear cF; rintro r v2 ⟨rfl, hg⟩; have HG2 := Lib.hid (HG1.out.trans hg); have HQ : Hid (v2.cell? ⟨g, 2, none⟩ = some (.slice A ys.length cap)) := hg.cells HQ.out; clear hg))
      go_wp2
      all_goals (go_ret; exact ⟨rfl, HG2.out⟩)
end Go.Proofs.Ytmpmfgkabjedpaa
namespace Go.Proofs.Ytmpmfgkabjedpaa
open Go.RowKit
set_option linter.unusedVariables false
set_option linter.unusedSimpArgs false
set_option maxRecDepth 100000
set_option maxHeartbeats 4000000
/-- without a place -/
def woL (zs : List Ce) (at_ : Int) : List Ce := if 0 ≤ at_ then zs.eraseIdx at_.toNat else zs
theorem woL_hit {zs : List Ce} {k : Nat} {x : Ce} (h : zs[k]? = some x) : woL (zs.take (k + 1)) (k : Nat) = woL (zs.take k) (k : Nat) := by
  obtain ⟨hk, rfl⟩ := List.getElem?_eq_some_iff.1 h
  have hl : (zs.take k).length = k := by rw [List.length_take]; omega
  have e1 : (zs.take k).eraseIdx k = zs.take k := List.eraseIdx_of_length_le (by omega)
  have e2 : (zs.take (k + 1)).eraseIdx k = zs.take k := by
    rw [List.take_succ_eq_append_getElem hk, List.eraseIdx_append_of_length_le (by omega), hl, Nat.sub_self]
    simp
  unfold woL
  rw [if_pos (by omega), if_pos (by omega), Int.toNat_natCast, e1, e2]
theorem woL_len (zs : List Ce) (at_ : Int) : (woL zs at_).length ≤ zs.length := by
  unfold woL
  split
  · exact List.length_eraseIdx_le _ _
  · exact Nat.le_refl _
theorem woL_miss {zs : List Ce} {k : Nat} {x : Ce} {at_ : Int} (h : zs[k]? = some x) (hne : ¬ (k : Int) = at_) : woL (zs.take (k + 1)) at_ = woL (zs.take k) at_ ++ [x] := by
  obtain ⟨hk, rfl⟩ := List.getElem?_eq_some_iff.1 h
  unfold woL
  rw [List.take_succ_eq_append_getElem hk]
  have hl : (zs.take k).length = k := by rw [List.length_take]; omega
  split
  · rename_i h0
    by_cases hlt : at_.toNat < k
    · rw [List.eraseIdx_append_of_lt_length (by omega)]
    · rw [List.eraseIdx_of_length_le (by simp; omega), List.eraseIdx_of_length_le (by omega)]
  · rfl
structure WW (w U : World) (g : Nat) (leaf : Bool) (NA : Array Value) (B : Option Addr) (n cb : Nat) (zs : List Ce) : Prop where
  gr : Gr w U
  a : U.heap[g]? = some (.cells NA 32 (0, 0))
  r : U.heap[g + 1]? = some (.cells #[.bool false, .slice none 0 0] 32 (0, 0))
  m : U.heap[g + 1 + 1]? = some (.cells #[.bool leaf, .slice B n cb] 32 (0, 0))
  own : Own U (g + 3) 59 4 ceCell B cb zs
  ln : zs.length = n
  hg : w.heap.size = g
section
variable {w U U' : World} {g : Nat} {leaf : Bool} {NA : Array Value} {B B2 : Option Addr} {n n2 cb cb2 : Nat} {zs zs2 : List Ce}
theorem WW.step (h : WW w U g leaf NA B n cb zs) (hg : Gr U U') : WW w U' g leaf NA B n cb zs :=
  ⟨h.gr.trans hg, (hg.block (lt_of_row h.a)).trans h.a, (hg.block (lt_of_row h.r)).trans h.r, (hg.block (lt_of_row h.m)).trans h.m, h.own.gr hg, h.ln, h.hg⟩
theorem WW.push (h : WW w U g leaf NA B n cb zs) (hgrow : U.grownBy U' (Value.slice B n cb).ownBlock) (hown : Own U' (g + 3) 59 4 ceCell B2 cb2 zs2) (hn : zs2.length = n2) :
    WW w (U'.setCell ⟨g + 1 + 1, 1, none⟩ (.slice B2 n2 cb2)) g leaf NA B2 n2 cb2 zs2 := by
  have hb : ∀ k, k < U.heap.size → k < g + 3 → U'.heap[k]? = U.heap[k]? := fun k h1 h2 => hgrow.block k h1 (fun he => by
    have := (h.own.lt (by rw [← ownOf_eq B n cb]; exact he.symm)).2; omega)
  have hg := h.hg
  have ho := h.own
  obtain ⟨rfl⟩ := h.ln
  have hgr : Gr w U' := ho.grown hgrow h.gr (by omega)
  have l0 := lt_of_row h.a
  have l2 := lt_of_row h.r
  have l3 := lt_of_row h.m
  refine ⟨((Ch.refl (g + 1 + 1) U').setCell 1 _).gr hgr (by omega), ?_, ?_, ?_, ?_, hn, hg⟩
  · exact (heap_setCell_other _ _ _ _ (by show g ≠ g + 1 + 1; omega)).trans ((hb g l0 (by omega)).trans h.a)
  · exact (heap_setCell_other _ _ _ _ (by show g + 1 ≠ g + 1 + 1; omega)).trans ((hb _ l2 (by omega)).trans h.r)
  · exact heap_setCell_same _ _ 1 _ _ _ ((hb _ l3 (by omega)).trans h.m)
  · exact hown.ch ((Ch.refl (g + 1 + 1) U').setCell 1 _) (fun e => by have := (hown.lt e).2; omega)
end
/-- the first key made empty, where a branch has lost a kid -/
def woE (leaf : Bool) (zs ws : List Ce) : List Ce := if leaf = false ∧ 0 < ws.length ∧ ws.length < zs.length then setC1 .empty ws else ws
theorem rf_without (leaf : Bool) (v : Value) (zs : List Ce) (hl : zs.length ≤ 1000) (at_ : Int) (w : World) (h : RfAt w leaf v zs) :
    Calls Try.prog 27 #[v, .int .i64 at_] w fun r w' => ∃ A n c, r = .returned (.agg #[.bool leaf, .slice A n c]) ∧ RfAt w' leaf (.agg #[.bool leaf, .slice A n c]) (woE leaf zs (woL zs at_)) ∧ Gr w w' := by
  obtain ⟨A, c1, rfl, hs1, h1, m1⟩ := h
  obtain ⟨ii, hii, hz0, hz1, hz2⟩ := info_parts sl_info_ce
  unfold maxLen at m1
  obtain ⟨r0, r1, r2⟩ := heap_alloc3 w (.cells #[.bool leaf, .slice A zs.length c1] 32) (.cells #[.bool false, .slice none 0 0] 32) (.cells #[.bool leaf, .slice none 0 0] 32)
  have HJ : Hid (WW w (((w.alloc (.cells #[.bool leaf, .slice A zs.length c1] 32)).alloc (.cells #[.bool false, .slice none 0 0] 32)).alloc (.cells #[.bool leaf, .slice none 0 0] 32)) w.heap.size leaf #[.bool leaf, .slice A zs.length c1] none 0 0 []) :=
    ⟨(((Gr.refl w).alloc _).alloc _).alloc _, r0, r1, r2, Own.nil _ _ _ _ _, rfl, rfl⟩
  have HS := Lib.hid hs1
  clear hs1 r0 r1 r2
  obtain ⟨ws, hws⟩ : ∃ ws, ws = woL zs at_ := ⟨_, rfl⟩
  rw [← hws]
  obtain ⟨es, hes⟩ : ∃ es, es = woE leaf zs ws := ⟨_, rfl⟩
  rw [← hes]
  have HWS := Lib.hid hws
  have HES := Lib.hid hes
  clear hws hes
  go_enter Try.func27, Try.ntmps27
  go_wp2
  generalize ((w.alloc (.cells #[.bool leaf, .slice A zs.length c1] 32)).alloc (.cells #[.bool false, .slice none 0 0] 32)).alloc (.cells #[.bool leaf, .slice none 0 0] 32) = U0 at *
  generalize hgw : w.heap.size = g at *
  have HGW := Lib.hid hgw
  clear hgw
  go_loopw [14] (fun i wr => ∃ (k : Nat) (B : Option Addr) (n cb : Nat), k ≤ zs.length ∧ i = .int .i64 (k : Nat) ∧ n ≤ k ∧ Hid (WW w wr g leaf #[.bool leaf, .slice A zs.length c1] B n cb (woL (zs.take k) at_))) (fun i _ => zs.length - (intOf i).toNat)
  case atStart => exact ⟨0, none, 0, 0, by omega, rfl, by omega, by have := HJ.out; rw [List.take_zero]; unfold woL; split <;> exact this⟩
  case round =>
    obtain ⟨k, B, n, cb, hk, rfl, hnk, HR⟩ := hrel
    have gm : wr.cell? ⟨g + 1 + 1, 1, none⟩ = some (.slice B n cb) := row_cell HR.out.m 1 _ rfl
    by_cases hlt : k < zs.length
    · rcases HS.out with h0 | ⟨a, off, rfl, hcell⟩
      · subst h0; simp at hlt
      have hget := List.getElem?_eq_getElem hlt
      generalize zs[k] = x at *
      obtain ⟨e0, e1, e2, e3⟩ := x
      have a0 := HR.out.gr.cells (hcell k _ hget 0 _ rfl)
      have a1 := HR.out.gr.cells (hcell k _ hget 1 _ rfl)
      have a2' := HR.out.gr.cells (hcell k _ hget 2 _ rfl)
      have a3 := HR.out.gr.cells (hcell k _ hget 3 _ rfl)
      simp only [Nat.add_zero] at a0
      clear hcell
      by_cases hat : (k : Int) = at_
      · subst hat
        have hC := Lib.hid (woL_hit hget)
        have HG : Hid (WW w (wr.alloc (.cells #[.string e0, .string e1, .int .u32 (e2 : Nat), .int .u32 (e3 : Nat)] 59)) g leaf #[.bool leaf, .slice (some ⟨a, off, none⟩) zs.length c1] B n cb (woL (zs.take k) (k : Nat))) := HR.out.step ((Gr.refl wr).alloc _)
        clear hget
        go_wp2
        go_roundw
        case rel => exact ⟨k + 1, B, n, cb, by omega, by go_num, by omega, by rw [hC.out]; exact HG.out⟩
        case measure => (simp [intOf]; try omega)
      · have hC := Lib.hid (woL_miss hget hat)
        have hatb : ((k : Int) != at_) = true := by simpa using hat
        clear hget
        have HR2 : Hid (WW w ((wr.alloc (.cells #[.string e0, .string e1, .int .u32 (e2 : Nat), .int .u32 (e3 : Nat)] 59)).alloc (.cells #[.string e0, .string e1, .int .u32 (e2 : Nat), .int .u32 (e3 : Nat)] 59)) g leaf #[.bool leaf, .slice (some ⟨a, off, none⟩) zs.length c1] B n cb (woL (zs.take k) at_)) := HR.out.step (((Gr.refl wr).alloc _).alloc _)
        have HNW := heap_alloc_last (wr.alloc (.cells #[.string e0, .string e1, .int .u32 (e2 : Nat), .int .u32 (e3 : Nat)] 59)) (.cells #[.string e0, .string e1, .int .u32 (e2 : Nat), .int .u32 (e3 : Nat)] 59)
        rw [alloc_size] at HNW
        have HNX := Lib.hid HNW
        clear HNW
        have HOW : Hid (((wr.alloc (.cells #[.string e0, .string e1, .int .u32 (e2 : Nat), .int .u32 (e3 : Nat)] 59)).alloc (.cells #[.string e0, .string e1, .int .u32 (e2 : Nat), .int .u32 (e3 : Nat)] 59)).ownsRow (g + 3) 59 4 (.slice B n cb) n ((woL (zs.take k) at_).flatMap ceCell)) := by
          have h := HR2.out.own
          unfold Own at h
          rw [HR2.out.ln] at h
          exact h
        have hg4 : g + 3 ≤ ((wr.alloc (.cells #[.string e0, .string e1, .int .u32 (e2 : Nat), .int .u32 (e3 : Nat)] 59)).alloc (.cells #[.string e0, .string e1, .int .u32 (e2 : Nat), .int .u32 (e3 : Nat)] 59)).heap.size := by have := lt_of_row HR2.out.m; omega
        have HG4 := Lib.hid hg4
        clear hg4
        have gmA : (wr.alloc (.cells #[.string e0, .string e1, .int .u32 (e2 : Nat), .int .u32 (e3 : Nat)] 59)).cell? ⟨g + 1 + 1, 1, none⟩ = some (.slice B n cb) := ((Gr.refl wr).alloc _).cells gm
        go_wp2_with (at_builtin; refine wpList_append_lies _ rfl _ _ 22 rfl (g + 3) 59 ii _ 4 40 Try.underlying22 hii hz0 hz1 hz2 rfl (by omega) (.slice B n cb) n ((woL (zs.take k) at_).flatMap ceCell) rfl HOW.out ⟨wr.heap.size + 1, 0, none⟩ 1 1 [.string e0, .string e1, .int .u32 (e2 : Nat), .int .u32 (e3 : Nat)] rfl rfl (World.news_of_block (cs := #[.string e0, .string e1, .int .u32 (e2 : Nat), .int .u32 (e3 : Nat)]) HNX.out) (fun u hu => by simp at hu; rcases hu with rfl | rfl | rfl | rfl <;> rfl) (by omega) (by unfold maxLen; omega) (by omega) HG4.out _ rfl ?_; intro gg cc v5 hown hgrow hat2 hlt5; have HO5 : Hid (Own v5 (g + 3) 59 4 ceCell (some ⟨gg, 0, none⟩) cc ((woL (zs.take k) at_) ++ [(e0, e1, e2, e3)])) := Own.push (e0, e1, e2, e3) (by rw [HR2.out.ln]; exact hown); have HJ5 : Hid (WW w (v5.setCell ⟨g + 1 + 1, 1, none⟩ (.slice (some ⟨gg, 0, none⟩) (n + 1) cc)) g leaf #[.bool leaf, .slice (some ⟨a, off, none⟩) zs.length c1] (some ⟨gg, 0, none⟩) (n + 1) cc ((woL (zs.take k) at_) ++ [(e0, e1, e2, e3)])) := HR2.out.push hgrow HO5.out (by rw [List.length_append, HR2.out.ln]; rfl); have hblk := (hgrow.block _ (lt_of_row HR2.out.m) (fun he => by have h3 := (HR2.out.own.lt (by rw [← ownOf_eq B n cb]; exact he.symm)).2; omega)).trans HR2.out.m; have c1m := row_cell hblk 1 _ rfl; have f1m := frozen_of_row _ _ 1 _ _ hblk; clear hown hgrow hat2 hblk)
        go_roundw
        case rel => exact ⟨k + 1, some ⟨gg, 0, none⟩, n + 1, cc, by omega, by go_num, by omega, by rw [hC.out]; exact HJ5.out⟩
        case measure => (simp [intOf]; try omega)
    · obtain rfl : k = zs.length := by omega
      have HR3 : Hid (WW w wr g leaf #[.bool leaf, .slice A zs.length c1] B n cb ws) := by have h := HR.out; rw [List.take_length] at h; rw [HWS.out]; exact h
      clear HR
      have hgw := HGW.out
      have g0 := row_cell HR3.out.a 0 _ rfl
      have g1 := row_cell HR3.out.a 1 _ rfl
      have gm0 := row_cell HR3.out.m 0 _ rfl
      have z0 := row_cell HR3.out.r 0 _ rfl
      have z1 := row_cell HR3.out.r 1 _ rfl
      have fz0 := frozen_of_row _ _ 0 _ _ HR3.out.r
      have fz1 := frozen_of_row _ _ 1 _ _ HR3.out.r
      have hln := HR3.out.ln
      have hes := HES.out
      clear HES HWS
      cases leaf
      · by_cases hc : 0 < n ∧ n < zs.length
        · obtain ⟨hc1, hc2⟩ := hc
          obtain ⟨y, yt, rfl⟩ : ∃ y yt, ws = y :: yt := List.exists_cons_of_ne_nil (fun he => by rw [he] at hln; simp at hln; omega)
          have hE : woE false zs (y :: yt) = (.empty, y.2) :: yt := by unfold woE; rw [if_pos ⟨rfl, by simp, by rw [hln]; exact hc2⟩]; rfl
          rw [hE] at hes
          subst hes
          clear hE
          have hl3 : ((ByteArray.empty, y.2) :: yt).length = n := by rw [← hln]; rfl
          have HLN := Lib.hid hl3
          obtain ⟨q, rfl, hbq, hql, hcell⟩ := HR3.out.own.head (fun _ => rfl)
          have k0 := hcell 0 _ rfl
          obtain ⟨cur, hrow⟩ := HR3.out.own.row
          have f0 := frozen_of_row _ _ 0 _ _ hrow
          have HOS := Lib.hid (HR3.out.own.set0 (x' := (.empty, y.2)) (.string { data := #[] }) rfl (fun _ => rfl) (by omega))
          have hc3 : (0 : Int) < (n : Int) := by omega
          have hc4 : (n : Int) < ((zs.length : Nat) : Int) := by omega
          have hq1 : ¬ q = g + 1 + 1 := by omega
          have hq2 : ¬ g + 1 + 1 = q := by omega
          have hq3 : ¬ q = g + 1 := by omega
          have hq4 : ¬ g + 1 = q := by omega
          have HQ := Lib.hid hbq
          clear hcell hrow hl3 hln hbq hql
          go_wp2
          have hbq := HQ.out
          refine bodyPost_ret (results_cell_row rfl _ _ (g + 1) _ #[.bool false, .slice (some ⟨q, 0, none⟩) n cb] (0, 0) (.struct _) rfl (set2_same (.bool false) (.slice (some ⟨q, 0, none⟩) n cb) ((heap_setCell_other _ _ _ _ (by show g + 1 ≠ q; omega)).trans HR3.out.r)) Try.underlying32 rfl (by kernel_rfl)) rfl ⟨(some ⟨q, 0, none⟩), n, cb, rfl, ⟨(some ⟨q, 0, none⟩), cb, by rw [HLN.out], (Own.ch (w' := _) HOS.out (((Ch.refl (g + 1) _).setCell 0 (.bool false)).setCell 1 (.slice (some ⟨q, 0, none⟩) n cb)) (fun e => by have h7 := (Own.lt HOS.out e).2; omega)).slice ceCell_len, (Own.cap_le HOS.out).1, (Own.cap_le HOS.out).2⟩, set2_gr (g + 1) (.bool false) (.slice (some ⟨q, 0, none⟩) n cb) (((Ch.refl q wr).setCell 0 (.string { data := #[] })).gr HR3.out.gr (by have := HQ.out; omega)) (by omega)⟩
        · have hE : woE false zs ws = ws := by unfold woE; rw [if_neg (fun h => hc ⟨by have := h.2.1; omega, by have := h.2.2; omega⟩)]
          rw [hE] at hes
          subst hes
          clear hE
          have HLN := Lib.hid hln
          by_cases hc1 : 0 < n
          · have hc3 : (0 : Int) < (n : Int) := by omega
            have hc4 : ¬ (n : Int) < ((zs.length : Nat) : Int) := by omega
            clear hc hln
            go_wp2
            refine bodyPost_ret (results_cell_row rfl _ _ (g + 1) _ #[.bool false, .slice B n cb] (0, 0) (.struct _) rfl (set2_same (.bool false) (.slice B n cb) HR3.out.r) Try.underlying32 rfl (by kernel_rfl)) rfl ⟨B, n, cb, rfl, ⟨B, cb, by rw [HLN.out], (Own.ch (w' := _) HR3.out.own (((Ch.refl (g + 1) _).setCell 0 (.bool false)).setCell 1 (.slice B n cb)) (fun e => by have h7 := (Own.lt HR3.out.own e).2; omega)).slice ceCell_len, (Own.cap_le HR3.out.own).1, (Own.cap_le HR3.out.own).2⟩, set2_gr (g + 1) (.bool false) (.slice B n cb) HR3.out.gr (by omega)⟩
          · have hc3 : ¬ (0 : Int) < (n : Int) := by omega
            clear hc hln
            go_wp2
            refine bodyPost_ret (results_cell_row rfl _ _ (g + 1) _ #[.bool false, .slice B n cb] (0, 0) (.struct _) rfl (set2_same (.bool false) (.slice B n cb) HR3.out.r) Try.underlying32 rfl (by kernel_rfl)) rfl ⟨B, n, cb, rfl, ⟨B, cb, by rw [HLN.out], (Own.ch (w' := _) HR3.out.own (((Ch.refl (g + 1) _).setCell 0 (.bool false)).setCell 1 (.slice B n cb)) (fun e => by have h7 := (Own.lt HR3.out.own e).2; omega)).slice ceCell_len, (Own.cap_le HR3.out.own).1, (Own.cap_le HR3.out.own).2⟩, set2_gr (g + 1) (.bool false) (.slice B n cb) HR3.out.gr (by omega)⟩
      · have hE : woE true zs ws = ws := by unfold woE; rw [if_neg (fun h => by cases h.1)]
        rw [hE] at hes
        subst hes
        clear hE
        have HLN := Lib.hid hln
        clear hln
        go_wp2
        refine bodyPost_ret (results_cell_row rfl _ _ (g + 1) _ #[.bool true, .slice B n cb] (0, 0) (.struct _) rfl (set2_same (.bool true) (.slice B n cb) HR3.out.r) Try.underlying32 rfl (by kernel_rfl)) rfl ⟨B, n, cb, rfl, ⟨B, cb, by rw [HLN.out], (Own.ch (w' := _) HR3.out.own (((Ch.refl (g + 1) _).setCell 0 (.bool true)).setCell 1 (.slice B n cb)) (fun e => by have h7 := (Own.lt HR3.out.own e).2; omega)).slice ceCell_len, (Own.cap_le HR3.out.own).1, (Own.cap_le HR3.out.own).2⟩, set2_gr (g + 1) (.bool true) (.slice B n cb) HR3.out.gr (by omega)⟩
end Go.Proofs.Ytmpmfgkabjedpaa
