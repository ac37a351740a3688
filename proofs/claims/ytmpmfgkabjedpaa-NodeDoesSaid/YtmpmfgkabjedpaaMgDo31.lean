/- Layer 6: a leaf: where a key is (printed by sl6_gen.py). -/
import Derived.Test.YtmpmfgkabjedpaaMgDo04
import Derived.Test.YtmpmfgkabjedpaaMgDo10
namespace Go.Proofs.Ytmpmfgkabjedpaa
open Go.RowKit
set_option linter.unusedVariables false
set_option linter.unusedSimpArgs false
set_option maxRecDepth 100000
set_option maxHeartbeats 2000000
theorem lf_find1 (bs bl bk : Nat) (A : Option Addr) (cap : Nat) (xs : List Ce) (hcap : xs.length ≤ cap) (hcm : cap ≤ maxLen) (key : ByteArray) (i : Nat) (x : Ce) (hi : xs[i]? = some x) (w : World) (hr : w.heap[bs]? = some (.cells #[.func (.func 68) #[] #[], .func (.func 69) #[] #[], .func (.func 70) #[] #[], .func (.func 71) #[] #[]] 79 (0, 0)))
    (hl : w.cell? ⟨bl, 0, none⟩ = some (.slice A xs.length cap)) (hk : w.cell? ⟨bk, 0, none⟩ = some (.string key)) (hs : SliceAt w A 4 ceCell xs) :
    Calls Try.prog 104 #[.int .i64 i, .pointer (some ⟨bs, 0, none⟩), .pointer (some ⟨bl, 0, none⟩), .pointer (some ⟨bk, 0, none⟩)] w fun e w' => e = .returned (.bool (!Op.bytesLess x.1.toList key.toList)) ∧ Gr w w' := by
  unfold maxLen at hcm
  have hlt : i < xs.length := by
    rcases Nat.lt_or_ge i xs.length with h | h
    · exact h
    · rw [List.getElem?_eq_none h] at hi; cases hi
  rcases hs with h0 | ⟨a, off, rfl, hcell⟩
  · subst h0; simp at hlt
  have hget := hi
  clear hi
  obtain ⟨e0, e1, e2, e3⟩ := x
  have a0 := hcell i _ hget 0 _ rfl
  have a1 := hcell i _ hget 1 _ rfl
  have a2 := hcell i _ hget 2 _ rfl
  have a3 := hcell i _ hget 3 _ rfl
  simp only [Nat.add_zero] at a0
  clear hcell hget
  have s0 := row_cell hr 0 _ rfl
  have s1 := row_cell hr 1 _ rfl
  have s2 := row_cell hr 2 _ rfl
  have s3 := row_cell hr 3 _ rfl
  clear hr
  have cK := fun w1 => Lib.hid (sl_keyLeaf e0 e1 e2 e3 w1)
  have HQ := Lib.hid (And.intro s2 (And.intro hl (And.intro hk (And.intro a0 (And.intro a1 (And.intro a2 a3))))))
  have hix : (i : Int) < (xs.length : Int) := by omega
  go_enter Try.func104, Try.ntmps104
  go_wp2
  go_region_held3 (fun w' => w'.cell? ⟨bs, 2, none⟩ = some (.func (.func 70) #[] #[]) ∧ w'.cell? ⟨bl, 0, none⟩ = some (.slice (some ⟨a, off, none⟩) xs.length cap) ∧ w'.cell? ⟨bk, 0, none⟩ = some (.string key) ∧ w'.cell? ⟨a, off + i * 4, none⟩ = some (.string e0) ∧ w'.cell? ⟨a, off + i * 4 + 1, none⟩ = some (.string e1) ∧ w'.cell? ⟨a, off + i * 4 + 2, none⟩ = some (.int .u32 (e2 : Nat)) ∧ w'.cell? ⟨a, off + i * 4 + 3, none⟩ = some (.int .u32 (e3 : Nat))) (first | exact HQ.out | assumption)
    ((go_at_call 70; refine (cK _).out.mono ?_; clear cK; rintro r v1 ⟨rfl, hg⟩; have HG : Hid (Gr w v1) := (Gr.refl w).drew.trans hg; have HQ := Lib.hid (And.intro (HG.out.cells s2) (And.intro (HG.out.cells hl) (And.intro (HG.out.cells hk) (And.intro (HG.out.cells a0) (And.intro (HG.out.cells a1) (And.intro (HG.out.cells a2) (HG.out.cells a3))))))); clear hg))
  go_wp2
  go_ret
  exact ⟨rfl, HG.out⟩
theorem lf_find (A : Option Addr) (cap : Nat) (xs : List Ce) (hcap : xs.length ≤ cap) (hcm : cap ≤ maxLen) (key : ByteArray) (hmono : ∀ (a b : Nat) (x y : Ce), a ≤ b → xs[a]? = some x → xs[b]? = some y → Op.bytesLess x.1.toList key.toList = false → Op.bytesLess y.1.toList key.toList = false) (hlen : xs.length < 4611686018427387904) (w : World) (hs : SliceAt w A 4 ceCell xs) :
    Calls Try.prog 60 #[.agg #[.func (.func 68) #[] #[], .func (.func 69) #[] #[], .func (.func 70) #[] #[], .func (.func 71) #[] #[]], .slice A xs.length cap, .string key] w fun e w' => e = .returned (.tuple #[.int .i64 (fdAt (fun x : Ce => x.1) xs key : Nat), .bool (fdIs (fun x : Ce => x.1) xs key)]) ∧ Gr w w' := by
  have HW : Hid (Gr w (((w.alloc (.cells #[.func (.func 68) #[] #[], .func (.func 69) #[] #[], .func (.func 70) #[] #[], .func (.func 71) #[] #[]] 79)).alloc (.cells #[.slice A xs.length cap] 22)).alloc (.cells #[.string key] 9))) := (((Gr.refl w).alloc _).alloc _).alloc _
  have HR : Hid ((((w.alloc (.cells #[.func (.func 68) #[] #[], .func (.func 69) #[] #[], .func (.func 70) #[] #[], .func (.func 71) #[] #[]] 79)).alloc (.cells #[.slice A xs.length cap] 22)).alloc (.cells #[.string key] 9)).heap[w.heap.size]? = some (.cells #[.func (.func 68) #[] #[], .func (.func 69) #[] #[], .func (.func 70) #[] #[], .func (.func 71) #[] #[]] 79 (0, 0)) ∧ (((w.alloc (.cells #[.func (.func 68) #[] #[], .func (.func 69) #[] #[], .func (.func 70) #[] #[], .func (.func 71) #[] #[]] 79)).alloc (.cells #[.slice A xs.length cap] 22)).alloc (.cells #[.string key] 9)).heap[w.heap.size + 1]? = some (.cells #[.slice A xs.length cap] 22 (0, 0)) ∧ (((w.alloc (.cells #[.func (.func 68) #[] #[], .func (.func 69) #[] #[], .func (.func 70) #[] #[], .func (.func 71) #[] #[]] 79)).alloc (.cells #[.slice A xs.length cap] 22)).alloc (.cells #[.string key] 9)).heap[w.heap.size + 1 + 1]? = some (.cells #[.string key] 9 (0, 0))) := heap_alloc3 w _ _ _
  have HS := Lib.hid hs
  have HC := Lib.hid hcm
  unfold maxLen at hcm
  obtain ⟨p, hp⟩ : ∃ p : Nat → Bool, ∀ i x, xs[i]? = some x → p i = !Op.bytesLess x.1.toList key.toList := ⟨fun i => match xs[i]? with | some x => !Op.bytesLess x.1.toList key.toList | none => true, fun i x hx => by simp only [hx]⟩
  have HM : Hid (∀ a b, a ≤ b → b < xs.length → p a = true → p b = true) := by
    intro a b hab hb h
    have ha : a < xs.length := by omega
    rw [hp a _ (List.getElem?_eq_getElem ha)] at h
    rw [hp b _ (List.getElem?_eq_getElem hb)]
    rw [hmono a b _ _ hab (List.getElem?_eq_getElem ha) (List.getElem?_eq_getElem hb) (by simpa using h)]; rfl
  have HP := Lib.hid hp
  clear hs hmono hp
  have cN := fun w1 => Lib.hid (lf_none w1)
  go_enter Try.func60, Try.ntmps60
  go_wp2_with (fail)
  generalize (((w.alloc (.cells #[.func (.func 68) #[] #[], .func (.func 69) #[] #[], .func (.func 70) #[] #[], .func (.func 71) #[] #[]] 79)).alloc (.cells #[.slice A xs.length cap] 22)).alloc (.cells #[.string key] 9)) = W at *
  generalize w.heap.size = g at *
  go_wp2_with (go_at_call 86; refine (cN _).out.mono ?_; clear cN; rintro r v1 ⟨rfl, hg⟩; have HG : Hid (Gr w v1) := HW.out.trans hg; have HV : Hid (v1.heap[g]? = some (.cells #[.func (.func 68) #[] #[], .func (.func 69) #[] #[], .func (.func 70) #[] #[], .func (.func 71) #[] #[]] 79 (0, 0)) ∧ v1.heap[g + 1]? = some (.cells #[.slice A xs.length cap] 22 (0, 0)) ∧ v1.heap[g + 1 + 1]? = some (.cells #[.string key] 9 (0, 0))) := ⟨(hg.block (lt_of_row HR.out.1)).trans HR.out.1, (hg.block (lt_of_row HR.out.2.1)).trans HR.out.2.1, (hg.block (lt_of_row HR.out.2.2)).trans HR.out.2.2⟩; clear hg; have l1 := row_cell HV.out.2.1 0 _ rfl)
  have hfc : ∀ (V : World) (i : Nat), Gr v1 V → i < xs.length → Calls Try.prog 104 (#[.int .i64 i] ++ #[.pointer (some ⟨g, 0, none⟩), .pointer (some ⟨g + 1, 0, none⟩), .pointer (some ⟨g + 1 + 1, 0, none⟩)]) V fun e w' => e = .returned (.bool (p i)) ∧ Gr V w' := by
    intro V i hV hi
    have hget := List.getElem?_eq_getElem hi
    rw [HP.out i _ hget]
    exact lf_find1 g (g + 1) (g + 1 + 1) A cap xs hcap HC.out key i _ hget V ((hV.block (lt_of_row HV.out.1)).trans HV.out.1) (hV.cells (row_cell HV.out.2.1 0 _ rfl)) (hV.cells (row_cell HV.out.2.2 0 _ rfl)) (HS.out.gr (HG.out.trans hV))
  have cS := Lib.hid (so_search 104 #[.pointer (some ⟨g, 0, none⟩), .pointer (some ⟨g + 1, 0, none⟩), .pointer (some ⟨g + 1 + 1, 0, none⟩)] xs.length p v1 (fun _ _ => by kernel_rfl) hlen hfc HM.out)
  clear hfc
  go_wp2_with (go_at_call 103; refine cS.out.mono ?_; clear cS; rintro r v2 ⟨k, rfl, hk, h1, h2, hg⟩; have HK : Hid (k = fdAt (fun x : Ce => x.1) xs key) := fdAt_of _ _ _ p k hk HP.out h1 h2; have HG2 : Hid (Gr w v2) := HG.out.trans hg; have HV2 : Hid (v2.heap[g]? = some (.cells #[.func (.func 68) #[] #[], .func (.func 69) #[] #[], .func (.func 70) #[] #[], .func (.func 71) #[] #[]] 79 (0, 0)) ∧ v2.heap[g + 1]? = some (.cells #[.slice A xs.length cap] 22 (0, 0)) ∧ v2.heap[g + 1 + 1]? = some (.cells #[.string key] 9 (0, 0))) := ⟨(hg.block (lt_of_row HV.out.1)).trans HV.out.1, (hg.block (lt_of_row HV.out.2.1)).trans HV.out.2.1, (hg.block (lt_of_row HV.out.2.2)).trans HV.out.2.2⟩; clear hg h1 h2 l1 HM HP)
  have l1 := row_cell HV2.out.2.1 0 _ rfl
  have l2 := row_cell HV2.out.2.2 0 _ rfl
  have s0 := row_cell HV2.out.1 0 _ rfl
  have s1 := row_cell HV2.out.1 1 _ rfl
  have s2 := row_cell HV2.out.1 2 _ rfl
  have s3 := row_cell HV2.out.1 3 _ rfl
  by_cases hlt : k < xs.length
  · rcases HS.out with h0 | ⟨a, off, rfl, hcell⟩
    · subst h0; simp at hlt
    have hget := List.getElem?_eq_getElem hlt
    have HI : Hid (fdIs (fun x : Ce => x.1) xs key = (xs[k].1.toList == key.toList)) := by
      unfold Hid fdIs; rw [← HK.out, hget]
    generalize xs[k] = x at *
    obtain ⟨e0, e1, e2, e3⟩ := x
    have a0 := HG2.out.cells (hcell k _ hget 0 _ rfl)
    have a1 := HG2.out.cells (hcell k _ hget 1 _ rfl)
    have a2 := HG2.out.cells (hcell k _ hget 2 _ rfl)
    have a3 := HG2.out.cells (hcell k _ hget 3 _ rfl)
    simp only [Nat.add_zero] at a0
    have HC2 := Lib.hid (And.intro hcell hget)
    clear hcell hget
    have cK := fun w1 => Lib.hid (sl_keyLeaf e0 e1 e2 e3 w1)
    have hix : (k : Int) < (xs.length : Int) := by omega
    have HQ := Lib.hid (And.intro s2 (And.intro l1 (And.intro l2 (And.intro a0 (And.intro a1 (And.intro a2 a3))))))
    go_region_held3 (fun w' => w'.cell? ⟨g, 2, none⟩ = some (.func (.func 70) #[] #[]) ∧ w'.cell? ⟨g + 1, 0, none⟩ = some (.slice (some ⟨a, off, none⟩) xs.length cap) ∧ w'.cell? ⟨g + 1 + 1, 0, none⟩ = some (.string key) ∧ w'.cell? ⟨a, off + k * 4, none⟩ = some (.string e0) ∧ w'.cell? ⟨a, off + k * 4 + 1, none⟩ = some (.string e1) ∧ w'.cell? ⟨a, off + k * 4 + 2, none⟩ = some (.int .u32 (e2 : Nat)) ∧ w'.cell? ⟨a, off + k * 4 + 3, none⟩ = some (.int .u32 (e3 : Nat))) (first | exact HQ.out | assumption)
      ((go_at_call 70; refine (cK _).out.mono ?_; clear cK; rintro r v3 ⟨rfl, hg⟩; have HG3 : Hid (Gr v2 v3) := (Gr.refl v2).drew.trans hg; have HQ := Lib.hid (And.intro (HG3.out.cells s2) (And.intro (HG3.out.cells l1) (And.intro (HG3.out.cells l2) (And.intro (HG3.out.cells a0) (And.intro (HG3.out.cells a1) (And.intro (HG3.out.cells a2) (HG3.out.cells a3))))))); clear hg))
    go_wp2
    go_ret2
    exact ⟨(by rw [← HK.out, HI.out]; try rfl), HG2.out.trans HG3.out⟩
  · have hd : decide ((k : Int) < (xs.length : Int)) = false := by simp; omega
    have HI : Hid (fdIs (fun x : Ce => x.1) xs key = false) := by
      unfold Hid fdIs; rw [← HK.out, List.getElem?_eq_none (by omega)]
    go_quiet (fail)
    go_wp2
    go_ret2
    exact ⟨(by rw [← HK.out, HI.out]; try rfl), HG2.out.trans ((Gr.refl _).drewN _)⟩
end Go.Proofs.Ytmpmfgkabjedpaa
