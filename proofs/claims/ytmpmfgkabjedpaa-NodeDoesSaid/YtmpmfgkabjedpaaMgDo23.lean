/- Layer 6: which cells a body is. No program in sight. -/
import Derived.Test.YtmpmfgkabjedpaaMgDo02
import Derived.Test.YtmpmfgkabjedpaaMgDo09
import Derived.Test.YtmpmfgkabjedpaaMgDo22
namespace Go.Proofs.Ytmpmfgkabjedpaa
set_option linter.unusedVariables false
set_option linter.unusedSimpArgs false
/-- what is laid is read, and what is read was laid -/
structure Rdg {α : Type} (get : ByteArray → Int → α × ByteArray × Int) (byt : α → ByteArray) (can : α → Prop) : Prop where
  ahead : ∀ x, can x → ∀ r, get (B ((byt x).data.toList ++ r)) 0 = (x, B r, 0)
  back : ∀ s t x, get s 0 = (x, t, 0) → can x ∧ s = byt x ++ t
theorem rdg_ce : Rdg rdCe lfB ceCan := ⟨rdCe_ahead, fun _ _ _ h => (rdCe_back h).2⟩
theorem rdg_ki : Rdg rdKi kiB kiCan := ⟨rdKi_ahead, fun _ _ _ h => (rdKi_back h).2⟩
/-- the bytes D are the cells L, so many -/
def Lay {α : Type} (byt : α → ByteArray) (can : α → Prop) (D : List UInt8) (count : Nat) (L : List α) : Prop :=
  L.length = count ∧ (∀ x ∈ L, can x) ∧ D = slAt count (L.map byt) 0 ++ slCells (L.map byt)
/-- the first k of them are l; t is ahead -/
def Mid {α : Type} (byt : α → ByteArray) (can : α → Prop) (D : List UInt8) (count k : Nat) (l : List α) (t : List UInt8) : Prop :=
  l.length = k ∧ (∀ x ∈ l, can x) ∧ D.drop (2 * count) = slCells (l.map byt) ++ t ∧ D.take (2 * k) = slAt count (l.map byt) 0
theorem slAt_append (n : Nat) : ∀ (xs bs : List ByteArray) (o : Nat), slAt n (xs ++ bs) o = slAt n xs o ++ slAt n bs (o + (slCells xs).length)
  | [], bs, o => by simp [slAt, slCells]
  | a :: xs, bs, o => by
    show Oct.be (2 * n + o) 2 ++ slAt n (xs ++ bs) (o + a.size) = (Oct.be (2 * n + o) 2 ++ slAt n xs (o + a.size)) ++ _
    rw [slAt_append n xs bs (o + a.size), slCells_cons, List.length_append, List.append_assoc]
    have : a.data.toList.length = a.size := by simp
    rw [this, Nat.add_assoc]
theorem slCells_append (xs bs : List ByteArray) : slCells (xs ++ bs) = slCells xs ++ slCells bs := by unfold slCells; rw [List.flatMap_append]
section
variable {α : Type} {get : ByteArray → Int → α × ByteArray × Int} {byt : α → ByteArray} {can : α → Prop}
theorem Rdg.pre (h : Rdg get byt can) : ∀ (l L : List α) (t : List UInt8), (∀ x ∈ l, can x) → (∀ x ∈ L, can x) → l.length ≤ L.length → slCells (L.map byt) = slCells (l.map byt) ++ t → L.take l.length = l ∧ slCells ((L.drop l.length).map byt) = t
  | [], L, t, _, _, _, he => by simpa [slCells] using he
  | x :: l, [], t, _, _, hl, _ => by simp at hl
  | x :: l, y :: L, t, h1, h2, hl, he => by
    simp only [List.map_cons, slCells_cons, List.append_assoc] at he
    have hx := h.ahead x (h1 x (by simp)) (slCells (l.map byt) ++ t)
    have hy := h.ahead y (h2 y (by simp)) (slCells (L.map byt))
    rw [he, hx] at hy
    simp only [Prod.mk.injEq, and_true] at hy
    obtain ⟨rfl, hb⟩ := hy
    have hb2 : slCells (l.map byt) ++ t = slCells (L.map byt) := by
      have := congrArg (fun b : ByteArray => b.data.toList) hb
      simpa [B] using this
    have ih := h.pre l L t (fun z hz => h1 z (by simp [hz])) (fun z hz => h2 z (by simp [hz])) (by simpa using hl) hb2.symm
    simp only [List.length_cons, List.take_succ_cons, List.drop_succ_cons]
    exact ⟨by rw [ih.1], ih.2⟩
theorem Lay.len {D : List UInt8} {count : Nat} {L : List α} (h : Lay byt can D count L) : 2 * count ≤ D.length := by
  rw [h.2.2, List.length_append, slAt_length, List.length_map, h.1]; omega
theorem Lay.drop {D : List UInt8} {count : Nat} {L : List α} (h : Lay byt can D count L) : D.drop (2 * count) = slCells (L.map byt) := by
  rw [h.2.2, List.drop_append_of_le_length (by rw [slAt_length, List.length_map, h.1]; omega), List.drop_of_length_le (by rw [slAt_length, List.length_map, h.1]; omega), List.nil_append]
theorem Mid.start (D : List UInt8) (count : Nat) : Mid byt can D count 0 [] (D.drop (2 * count)) := ⟨rfl, fun x hx => by simp at hx, by simp [slCells], by simp [slAt]⟩
theorem Mid.split (h : Rdg get byt can) {D : List UInt8} {count k : Nat} {l L : List α} {t : List UInt8} (hm : Mid byt can D count k l t) (hL : Lay byt can D count L) (hk : k ≤ count) : L.take k = l ∧ slCells ((L.drop k).map byt) = t := by
  have := h.pre l L t hm.2.1 hL.2.1 (by rw [hm.1, hL.1]; exact hk) (by rw [← hL.drop, hm.2.2.1])
  rwa [hm.1] at this
theorem Mid.next (h : Rdg get byt can) {D : List UInt8} {count k : Nat} {l L : List α} {t : List UInt8} (hm : Mid byt can D count k l t) (hL : Lay byt can D count L) (hk : k < count) :
    ∃ x rest, L = l ++ x :: rest ∧ can x ∧ t = (byt x).data.toList ++ slCells (rest.map byt) := by
  obtain ⟨h1, h2⟩ := hm.split h hL (Nat.le_of_lt hk)
  have hlt : k < L.length := by rw [hL.1]; exact hk
  refine ⟨L[k], L.drop (k + 1), ?_, hL.2.1 _ (List.getElem_mem hlt), ?_⟩
  · rw [← h1, ← List.drop_eq_getElem_cons hlt, List.take_append_drop]
  · rw [← h2, List.drop_eq_getElem_cons hlt, List.map_cons, slCells_cons]
/-- a slot that says another place: these bytes are no cells -/
theorem Mid.slot (h : Rdg get byt can) {D : List UInt8} {count k : Nat} {l L : List α} {t : List UInt8} (hm : Mid byt can D count k l t) (hL : Lay byt can D count L) (hk : k < count) (hb : 2 * count + (slCells (l.map byt)).length < 65536) :
    Oct.num ((D.drop (2 * k)).take 2) = 2 * count + (slCells (l.map byt)).length := by
  obtain ⟨x, rest, hLe, _, _⟩ := hm.next h hL hk
  have hD : D = slAt count (l.map byt) 0 ++ (Oct.be (2 * count + (slCells (l.map byt)).length) 2 ++ (slAt count (rest.map byt) (0 + (slCells (l.map byt)).length + (byt x).size) ++ slCells (L.map byt))) := by
    rw [hL.2.2]
    conv => lhs; rw [hLe]
    rw [List.map_append, List.map_cons, slAt_append]
    simp only [slAt, List.append_assoc, Nat.zero_add]
    rw [← List.map_cons, ← List.map_append, ← hLe]
  have hd : D.drop (2 * k) = Oct.be (2 * count + (slCells (l.map byt)).length) 2 ++ (slAt count (rest.map byt) (0 + (slCells (l.map byt)).length + (byt x).size) ++ slCells (L.map byt)) := by
    conv => lhs; rw [hD]
    have hl : (slAt count (l.map byt) 0).length = 2 * k := by rw [slAt_length, List.length_map, hm.1]
    rw [← hl, List.drop_left]
  rw [hd, List.take_append_of_le_length (by rw [Oct.be_length]; omega), List.take_of_length_le (by rw [Oct.be_length]; omega), Oct.num_be _ 2 (by omega)]
theorem Mid.push (h : Rdg get byt can) {D : List UInt8} {count k : Nat} {l : List α} {t : List UInt8} (hm : Mid byt can D count k l t) (hlen : 2 * k + 2 ≤ D.length) (hs : Oct.num ((D.drop (2 * k)).take 2) = 2 * count + (slCells (l.map byt)).length)
    {x : α} {t' : ByteArray} (hg : get (B t) 0 = (x, t', 0)) : Mid byt can D count (k + 1) (l ++ [x]) t'.data.toList := by
  obtain ⟨hc, he⟩ := h.back _ _ _ hg
  have he2 : t = (byt x).data.toList ++ t'.data.toList := by
    have := congrArg (fun b : ByteArray => b.data.toList) he
    simpa [B] using this
  refine ⟨by rw [List.length_append, hm.1]; rfl, fun y hy => ?_, ?_, ?_⟩
  · rcases List.mem_append.1 hy with hy | hy
    · exact hm.2.1 y hy
    · simp only [List.mem_singleton] at hy; subst hy; exact hc
  · rw [hm.2.2.1, he2, List.map_append, slCells_append]
    simp [slCells]
  · have h2 : (D.drop (2 * k)).take 2 = Oct.be (2 * count + (slCells (l.map byt)).length) 2 := by
      have hl : ((D.drop (2 * k)).take 2).length = 2 := by rw [List.length_take, List.length_drop]; omega
      have := Oct.be_num ((D.drop (2 * k)).take 2)
      rw [hl, hs] at this
      exact this.symm
    have h3 : D.take (2 * (k + 1)) = D.take (2 * k) ++ (D.drop (2 * k)).take 2 := by
      rw [show 2 * (k + 1) = 2 * k + 2 by omega, List.take_add]
    rw [h3, hm.2.2.2, h2, List.map_append, slAt_append]
    simp [slAt]
theorem Mid.bad (h : Rdg get byt can) {D : List UInt8} {count k : Nat} {l L : List α} {t : List UInt8} (hm : Mid byt can D count k l t) (hL : Lay byt can D count L) (hk : k < count) : (get (B t) 0).2.2 = 0 := by
  obtain ⟨x, rest, _, hx, rfl⟩ := hm.next h hL hk
  rw [h.ahead x hx]
theorem Mid.over (h : Rdg get byt can) {D : List UInt8} {count : Nat} {l L : List α} {t : List UInt8} (hm : Mid byt can D count count l t) (hL : Lay byt can D count L) : t = [] ∧ L = l := by
  obtain ⟨h1, h2⟩ := hm.split h hL (Nat.le_refl _)
  rw [List.drop_of_length_le (by rw [hL.1]; exact Nat.le_refl _)] at h2
  rw [List.take_of_length_le (by rw [hL.1]; exact Nat.le_refl _)] at h1
  exact ⟨by simpa [slCells] using h2.symm, h1⟩
theorem Mid.lay {D : List UInt8} {count : Nat} {l : List α} (hm : Mid byt can D count count l []) : Lay byt can D count l := by
  refine ⟨hm.1, hm.2.1, ?_⟩
  have h1 := hm.2.2.1
  rw [List.append_nil] at h1
  rw [← hm.2.2.2, ← h1, List.take_append_drop]
theorem Lay.one (h : Rdg get byt can) {D : List UInt8} {count : Nat} {l L : List α} (hl : Lay byt can D count l) (hL : Lay byt can D count L) : L = l := by
  have hm : Mid byt can D count count l [] := ⟨hl.1, hl.2.1, by rw [hl.drop, List.append_nil], by
    have h2 : (slAt count (l.map byt) 0).length = 2 * count := by rw [slAt_length, List.length_map, hl.1]
    conv => lhs; rw [hl.2.2]
    rw [← h2, List.take_left]⟩
  exact (hm.over h hL).2
open Classical in
noncomputable def rdAns (byt : α → ByteArray) (can : α → Prop) (bad : α → Bool) (key : α → ByteArray) (D : List UInt8) (count : Int) : List α × Int :=
  if h : ∃ L, 0 ≤ count ∧ Lay byt can D count.toNat L then (if rErr bad key h.choose = 0 then (h.choose, 0) else ([], rErr bad key h.choose)) else ([], 4)
theorem rdAns_some (h : Rdg get byt can) {bad : α → Bool} {key : α → ByteArray} {D : List UInt8} {count : Nat} {l : List α} (hl : Lay byt can D count l) : rdAns byt can bad key D count = if rErr bad key l = 0 then (l, 0) else ([], rErr bad key l) := by
  have he : ∃ L, 0 ≤ (count : Int) ∧ Lay byt can D (count : Int).toNat L := ⟨l, by omega, by rw [Int.toNat_natCast]; exact hl⟩
  unfold rdAns
  rw [dif_pos he]
  have h2 : ∀ L, Lay byt can D (count : Int).toNat L → L = l := fun L hL => hl.one h (by rwa [Int.toNat_natCast] at hL)
  rw [h2 _ he.choose_spec.2]
theorem rdAns_none {bad : α → Bool} {key : α → ByteArray} {D : List UInt8} {count : Nat} (hn : ∀ L, ¬ Lay byt can D count L) : rdAns byt can bad key D count = ([], 4) := by
  unfold rdAns
  rw [dif_neg]
  rintro ⟨L, _, hL⟩
  rw [Int.toNat_natCast] at hL
  exact hn L hL
theorem rdAns_neg {bad : α → Bool} {key : α → ByteArray} {D : List UInt8} {count : Int} (hn : count < 0) : rdAns byt can bad key D count = ([], 4) := by
  unfold rdAns
  rw [dif_neg]
  rintro ⟨L, h0, hL⟩
  omega
/-- what is answered: no error, and they are these cells; or an error, and none -/
theorem rdAns_cases (byt : α → ByteArray) (can : α → Prop) (bad : α → Bool) (key : α → ByteArray) (D : List UInt8) (count : Int) :
    (∃ l : List α, rdAns byt can bad key D count = (l, 0) ∧ 0 ≤ count ∧ Lay byt can D count.toNat l ∧ rErr bad key l = 0) ∨ (∃ e, e ≠ 0 ∧ rdAns byt can bad key D count = ([], e)) := by
  by_cases h : ∃ L, 0 ≤ count ∧ Lay byt can D count.toNat L
  · by_cases he : rErr bad key h.choose = 0
    · refine .inl ⟨h.choose, ?_, h.choose_spec.1, h.choose_spec.2, he⟩
      unfold rdAns; rw [dif_pos h, if_pos he]
    · refine .inr ⟨_, he, ?_⟩
      unfold rdAns; rw [dif_pos h, if_neg he]
  · refine .inr ⟨4, by omega, ?_⟩
    unfold rdAns; rw [dif_neg h]
end
end Go.Proofs.Ytmpmfgkabjedpaa
namespace Go.Proofs.Ytmpmfgkabjedpaa
open Go.RowKit
set_option linter.unusedVariables false
set_option linter.unusedSimpArgs false
set_option maxRecDepth 100000
set_option maxHeartbeats 2000000
theorem Ch.setRow {b g : Nat} {w w' : World} (h : Ch b w w') (hg : w.heap.size ≤ g) (cs : Array Value) : Ch b w (w'.setRow g cs) :=
  ⟨h.os, h.tape, h.output, by rw [setRow_size]; exact h.size, fun k hk hb => (setRow_other _ _ _ _ (by omega)).trans (h.block k hk hb)⟩
theorem sl_getKey (b : Nat) (s : ByteArray) (hs : s.size ≤ maxLen) (e : Int) (w : World) (h : RdAt w b s e) :
    Calls Try.prog 77 #[.pointer (some ⟨b, 0, none⟩)] w fun r w' => r = .returned (.string (rdKey s e).1) ∧ RdAt w' b (rdKey s e).2.1 (rdKey s e).2.2 ∧ Ch b w w' := by
  have h1 := rdNum_size s e 1
  have h2 := rdNum_lt s e 1
  have HE : Hid (rdKey s e = rdTake (rdNum s e 1).2.1 (rdNum s e 1).2.2 (rdNum s e 1).1) := rfl
  generalize rdKey s e = q at *
  have c1 := Lib.hid (oct_rdone b s hs e w h)
  generalize rdNum s e 1 = p at *
  obtain ⟨n, s1, e1⟩ := p
  simp only at h1 h2 c1 HE
  have c2 := fun w1 h1' => Lib.hid (oct_take b s1 (Nat.le_trans h1 hs) e1 (n : Nat) w1 h1')
  rw [← HE.out] at c2
  clear h HE
  obtain ⟨k, s2, e2⟩ := q
  simp only at c2 ⊢
  go_enter Try.func77, Try.ntmps77
  go_wp2_with (first
    | (go_at_call 110; refine c1.out.mono ?_; clear c1; rintro r v1 ⟨rfl, hr, hc⟩; have HR := Lib.hid (And.intro hr hc); clear hr hc)
    | (go_at_call 111; refine (c2 _ HR.out.1).out.mono ?_; clear c2; rintro r v2 ⟨rfl, hr, hc⟩; have HR2 := Lib.hid (And.intro hr (HR.out.2.trans hc)); clear hr hc))
  go_ret
  exact ⟨rfl, HR2.out.1, HR2.out.2⟩
theorem sl_getKid (b : Nat) (s : ByteArray) (hs : s.size ≤ maxLen) (e : Int) (w : World) (h : RdAt w b s e) :
    Calls Try.prog 76 #[.pointer (some ⟨b, 0, none⟩)] w fun r w' => r = .returned (.agg #[.string (rdKi s e).1.1, .int .u32 ((rdKi s e).1.2 : Nat)]) ∧ RdAt w' b (rdKi s e).2.1 (rdKi s e).2.2 ∧ Ch b w w' := by
  have h1 := (rdKey_size s e).2
  have HE : Hid (rdKi s e = (((rdKey s e).1, (rdNum (rdKey s e).2.1 (rdKey s e).2.2 4).1), (rdNum (rdKey s e).2.1 (rdKey s e).2.2 4).2)) := rfl
  generalize rdKi s e = q at *
  have c1 := fun w1 h1' => Lib.hid (sl_getKey b s hs e w1 h1')
  generalize rdKey s e = p at *
  obtain ⟨k, s1, e1⟩ := p
  simp only at h1 c1 HE
  have c2 := fun w1 h1' => Lib.hid (oct_rdfour b s1 (Nat.le_trans h1 hs) e1 w1 h1')
  generalize rdNum s1 e1 4 = p at *
  obtain ⟨n, s2, e2⟩ := p
  simp only at c2 HE
  have HQ := Lib.hid HE.out
  clear HE
  have hlt := h.lt
  have HG := Lib.hid (heap_alloc_last w (.cells #[.string { data := #[] }, .int .u32 0] 61))
  have H0 := Lib.hid (h.gr ((Gr.refl w).alloc (.cells #[.string { data := #[] }, .int .u32 0] 61)))
  have HC0 : Hid (Ch b w (w.alloc (.cells #[.string { data := #[] }, .int .u32 0] 61))) := ((Gr.refl w).alloc _).ch b
  clear h
  go_enter Try.func76, Try.ntmps76
  go_wp2_with (fail)
  generalize w.alloc (.cells #[.string { data := #[] }, .int .u32 0] 61) = W at *
  have hgb : w.heap.size ≠ b := by omega
  have hge : w.heap.size ≤ w.heap.size := Nat.le_refl _
  obtain ⟨g, hgg⟩ : ∃ g, g = w.heap.size := ⟨_, rfl⟩
  have HGG := Lib.hid hgg
  rw [← hgg] at HG hlt hgb ⊢
  clear hgg hge
  go_wp2_with (first
    | (go_at_call 77; refine (c1 _ H0.out).out.mono ?_; clear c1; rintro r v1 ⟨rfl, hr, hc⟩; have HR := Lib.hid (And.intro hr (And.intro (HC0.out.trans hc) ((hc.block g (lt_of_row HG.out) hgb).trans HG.out))); clear hr hc)
    | (go_at_call 78; refine (c2 _ HR.out.1).out.mono ?_; clear c2; rintro r v2 ⟨rfl, hr, hc⟩; have HR2 := Lib.hid (And.intro hr (And.intro (HR.out.2.1.trans hc) ((hc.block g (lt_of_row HR.out.2.2) hgb).trans HR.out.2.2))); clear hr hc; have z0 := row_cell HR2.out.2.2 0 _ rfl; have z1 := row_cell HR2.out.2.2 1 _ rfl; have f0 := frozen_of_row _ _ 0 _ _ HR2.out.2.2; have f1 := frozen_of_row _ _ 1 _ _ HR2.out.2.2))
  refine bodyPost_ret (v := .agg #[.string k, .int .u32 (n : Nat)]) (results_cell_row rfl _ _ g _ #[.string k, .int .u32 (n : Nat)] (0, 0) (.struct _) rfl (heap_setCell_same _ _ 1 _ _ _ (heap_setCell_same _ _ 0 _ _ _ HR2.out.2.2)) Try.underlying61 rfl (by kernel_rfl)) rfl ⟨?_, ?_, ?_⟩
  · rw [HQ.out]
  · rw [HQ.out]; exact HR2.out.1.of_block ((Below.heap_setCell _ _ _ _ (by show b ≠ g; omega)).trans (Below.heap_setCell _ _ _ _ (by show b ≠ g; omega)))
  · exact (HR2.out.2.1.setFar (by rw [HGG.out]; exact Nat.le_refl _) 0 _).setFar (by rw [HGG.out]; exact Nat.le_refl _) 1 _
theorem sl_getCell (b : Nat) (s : ByteArray) (hs : s.size ≤ maxLen) (e : Int) (w : World) (h : RdAt w b s e) :
    Calls Try.prog 69 #[.pointer (some ⟨b, 0, none⟩)] w fun r w' => r = .returned (.agg #[.string (rdCe s e).1.1, .string (rdCe s e).1.2.1, .int .u32 ((rdCe s e).1.2.2.1 : Nat), .int .u32 ((rdCe s e).1.2.2.2 : Nat)]) ∧ RdAt w' b (rdCe s e).2.1 (rdCe s e).2.2 ∧ Ch b w w' := by
  have h1 := (rdKey_size s e).2
  have c1 := fun w1 h1' => Lib.hid (sl_getKey b s hs e w1 h1')
  obtain ⟨q, hq⟩ : ∃ q, q = rdCe s e := ⟨_, rfl⟩
  rw [← hq]
  unfold rdCe at hq
  generalize rdKey s e = p at *
  obtain ⟨k, s1, e1⟩ := p
  simp only at h1 c1 hq
  have c2 := fun w1 h1' => Lib.hid (oct_rdone b s1 (Nat.le_trans h1 hs) e1 w1 h1')
  have h2 := rdNum_size s1 e1 1
  have h2l := rdNum_lt s1 e1 1
  generalize rdNum s1 e1 1 = p at *
  obtain ⟨m, s2, e2⟩ := p
  simp only at h2 h2l c2 hq
  have hlt := h.lt
  have HG := Lib.hid (heap_alloc_last w (.cells #[.string { data := #[] }, .string { data := #[] }, .int .u32 0, .int .u32 0] 59))
  have H0 := Lib.hid (h.gr ((Gr.refl w).alloc (.cells #[.string { data := #[] }, .string { data := #[] }, .int .u32 0, .int .u32 0] 59)))
  have HC0 : Hid (Ch b w (w.alloc (.cells #[.string { data := #[] }, .string { data := #[] }, .int .u32 0, .int .u32 0] 59))) := ((Gr.refl w).alloc _).ch b
  clear h
  by_cases hm : m = 0
  · subst hm
    rw [if_pos rfl] at hq
    have c3 := fun w1 h1' => Lib.hid (oct_rdtwo b s2 (by omega) e2 w1 h1')
    have h3 := rdNum_size s2 e2 2
    have h3l := rdNum_lt s2 e2 2
    generalize rdNum s2 e2 2 = p at *
    obtain ⟨n, s3, e3⟩ := p
    simp only at h3 h3l c3 hq
    have c4 := fun w1 h1' => Lib.hid (oct_take b s3 (by omega) e3 (n : Nat) w1 h1')
    generalize rdTake s3 e3 n = p at *
    obtain ⟨v, s4, e4⟩ := p
    simp only at c4 hq
    have HQ := Lib.hid hq
    clear hq
    have e00 : ((0 : Nat) : Int) = 0 := rfl
    simp only [e00] at c2
    go_enter Try.func69, Try.ntmps69
    go_wp2_with (fail)
    generalize w.alloc (.cells #[.string { data := #[] }, .string { data := #[] }, .int .u32 0, .int .u32 0] 59) = W at *
    have hgb : w.heap.size ≠ b := by omega
    obtain ⟨g, hgg⟩ : ∃ g, g = w.heap.size := ⟨_, rfl⟩
    have HGG := Lib.hid hgg
    rw [← hgg] at HG hlt hgb ⊢
    clear hgg
    go_wp2_with (go_at_call 77; refine (c1 _ H0.out).out.mono ?_; clear c1; rintro r v1 ⟨rfl, hr, hc⟩; have HR := Lib.hid (And.intro hr (And.intro (HC0.out.trans hc) ((hc.block g (lt_of_row HG.out) hgb).trans HG.out))); clear hr hc)
    have HS : Hid (RdAt (v1.alloc (.cells #[.string k, .string { data := #[] }, .int .u32 0, .int .u32 0] 59)) b s1 e1 ∧ Ch b w (v1.alloc (.cells #[.string k, .string { data := #[] }, .int .u32 0, .int .u32 0] 59)) ∧ (v1.alloc (.cells #[.string k, .string { data := #[] }, .int .u32 0, .int .u32 0] 59)).heap[g]? = some (.cells #[.string { data := #[] }, .string { data := #[] }, .int .u32 0, .int .u32 0] 59 (0, 0)) ∧ (v1.alloc (.cells #[.string k, .string { data := #[] }, .int .u32 0, .int .u32 0] 59)).heap[v1.heap.size]? = some (.cells #[.string k, .string { data := #[] }, .int .u32 0, .int .u32 0] 59 (0, 0))) := ⟨HR.out.1.gr ((Gr.refl v1).alloc _), HR.out.2.1.alloc _, (((Gr.refl v1).alloc _).block (lt_of_row HR.out.2.2)).trans HR.out.2.2, heap_alloc_last v1 _⟩
    have hcb : v1.heap.size ≠ b := by have := HR.out.1.lt; omega
    have hcg : v1.heap.size ≠ g := by have := lt_of_row HR.out.2.2; omega
    have hcw : w.heap.size ≤ v1.heap.size := HR.out.2.1.size
    clear HR HG H0 HC0
    generalize v1.alloc (.cells #[.string k, .string { data := #[] }, .int .u32 0, .int .u32 0] 59) = W2 at *
    generalize v1.heap.size = cc at *
    go_wp2_with (first
      | (go_at_call 110; refine (c2 _ HS.out.1).out.mono ?_; clear c2; rintro r v2 ⟨rfl, hr, hc⟩; have HS2 := Lib.hid (And.intro hr (And.intro (HS.out.2.1.trans hc) (And.intro ((hc.block g (lt_of_row HS.out.2.2.1) hgb).trans HS.out.2.2.1) ((hc.block cc (lt_of_row HS.out.2.2.2) hcb).trans HS.out.2.2.2)))); clear hr hc)
      | (go_at_call 97; refine (c3 _ HS2.out.1).out.mono ?_; clear c3; rintro r v3 ⟨rfl, hr, hc⟩; have HS3 := Lib.hid (And.intro hr (And.intro (HS2.out.2.1.trans hc) (And.intro ((hc.block g (lt_of_row HS2.out.2.2.1) hgb).trans HS2.out.2.2.1) ((hc.block cc (lt_of_row HS2.out.2.2.2) hcb).trans HS2.out.2.2.2)))); clear hr hc)
      | (go_at_call 111; refine (c4 _ HS3.out.1).out.mono ?_; clear c4; rintro r v4 ⟨rfl, hr, hc⟩; have HS4 := Lib.hid (And.intro hr (And.intro (HS3.out.2.1.trans hc) (And.intro ((hc.block g (lt_of_row HS3.out.2.2.1) hgb).trans HS3.out.2.2.1) ((hc.block cc (lt_of_row HS3.out.2.2.2) hcb).trans HS3.out.2.2.2)))); clear hr hc; have x0 := row_cell HS4.out.2.2.2 0 _ rfl; have y0 := frozen_of_row _ _ 0 _ _ HS4.out.2.2.2; have z0 := row_cell HS4.out.2.2.1 0 _ rfl; have f0 := frozen_of_row _ _ 0 _ _ HS4.out.2.2.1; have x1 := row_cell HS4.out.2.2.2 1 _ rfl; have y1 := frozen_of_row _ _ 1 _ _ HS4.out.2.2.2; have z1 := row_cell HS4.out.2.2.1 1 _ rfl; have f1 := frozen_of_row _ _ 1 _ _ HS4.out.2.2.1; have x2 := row_cell HS4.out.2.2.2 2 _ rfl; have y2 := frozen_of_row _ _ 2 _ _ HS4.out.2.2.2; have z2 := row_cell HS4.out.2.2.1 2 _ rfl; have f2 := frozen_of_row _ _ 2 _ _ HS4.out.2.2.1; have x3 := row_cell HS4.out.2.2.2 3 _ rfl; have y3 := frozen_of_row _ _ 3 _ _ HS4.out.2.2.2; have z3 := row_cell HS4.out.2.2.1 3 _ rfl; have f3 := frozen_of_row _ _ 3 _ _ HS4.out.2.2.1))
    refine bodyPost_ret (v := .agg #[.string k, .string v, .int .u32 0, .int .u32 0]) (results_cell_row rfl _ _ g _ #[.string k, .string v, .int .u32 0, .int .u32 0] (0, 0) (.struct _) rfl (heap_setCell_same _ _ 3 _ _ _ (heap_setCell_same _ _ 2 _ _ _ (heap_setCell_same _ _ 1 _ _ _ (heap_setCell_same _ _ 0 _ _ _ ((Below.heap_setCell _ _ _ _ (by show g ≠ cc; omega)).trans HS4.out.2.2.1))))) Try.underlying59 rfl (by kernel_rfl)) rfl ⟨?_, ?_, ?_⟩
    · rw [HQ.out]; rfl
    · rw [HQ.out]; exact HS4.out.1.of_block ((Below.heap_setCell _ _ _ _ (by show b ≠ g; omega)).trans ((Below.heap_setCell _ _ _ _ (by show b ≠ g; omega)).trans ((Below.heap_setCell _ _ _ _ (by show b ≠ g; omega)).trans ((Below.heap_setCell _ _ _ _ (by show b ≠ g; omega)).trans (Below.heap_setCell _ _ _ _ (by show b ≠ cc; omega))))))
    · exact (((((HS4.out.2.1.setFar hcw 1 _).setFar (by rw [HGG.out]; exact Nat.le_refl _) 0 _).setFar (by rw [HGG.out]; exact Nat.le_refl _) 1 _).setFar (by rw [HGG.out]; exact Nat.le_refl _) 2 _).setFar (by rw [HGG.out]; exact Nat.le_refl _) 3 _)
  · rw [if_neg hm] at hq
    by_cases hm1 : m = 1
    · subst hm1
      rw [if_pos rfl] at hq
      have c3 := fun w1 h1' => Lib.hid (oct_rdfour b s2 (by omega) e2 w1 h1')
      have h3 := rdNum_size s2 e2 4
      have h3l := rdNum_lt s2 e2 4
      generalize rdNum s2 e2 4 = p at *
      obtain ⟨c, s3, e3⟩ := p
      simp only at h3 h3l c3 hq
      have c4 := fun w1 h1' => Lib.hid (oct_rdfour b s3 (by omega) e3 w1 h1')
      have h4l := rdNum_lt s3 e3 4
      generalize rdNum s3 e3 4 = p at *
      obtain ⟨l, s4, e4⟩ := p
      simp only at h4l c4 hq
      have e11 : ((1 : Nat) : Int) = 1 := rfl
      simp only [e11] at c2
      clear hm e11
      by_cases hc0 : c = 0
      · subst hc0
        rw [if_pos rfl] at hq
        have HQ := Lib.hid hq
        clear hq
        have e00 : ((0 : Nat) : Int) = 0 := rfl
        simp only [e00] at c3
        go_enter Try.func69, Try.ntmps69
        go_wp2_with (fail)
        generalize w.alloc (.cells #[.string { data := #[] }, .string { data := #[] }, .int .u32 0, .int .u32 0] 59) = W at *
        have hgb : w.heap.size ≠ b := by omega
        obtain ⟨g, hgg⟩ : ∃ g, g = w.heap.size := ⟨_, rfl⟩
        have HGG := Lib.hid hgg
        rw [← hgg] at HG hlt hgb ⊢
        clear hgg
        go_wp2_with (go_at_call 77; refine (c1 _ H0.out).out.mono ?_; clear c1; rintro r v1 ⟨rfl, hr, hc⟩; have HR := Lib.hid (And.intro hr (And.intro (HC0.out.trans hc) ((hc.block g (lt_of_row HG.out) hgb).trans HG.out))); clear hr hc)
        have HS : Hid (RdAt (v1.alloc (.cells #[.string k, .string { data := #[] }, .int .u32 0, .int .u32 0] 59)) b s1 e1 ∧ Ch b w (v1.alloc (.cells #[.string k, .string { data := #[] }, .int .u32 0, .int .u32 0] 59)) ∧ (v1.alloc (.cells #[.string k, .string { data := #[] }, .int .u32 0, .int .u32 0] 59)).heap[g]? = some (.cells #[.string { data := #[] }, .string { data := #[] }, .int .u32 0, .int .u32 0] 59 (0, 0)) ∧ (v1.alloc (.cells #[.string k, .string { data := #[] }, .int .u32 0, .int .u32 0] 59)).heap[v1.heap.size]? = some (.cells #[.string k, .string { data := #[] }, .int .u32 0, .int .u32 0] 59 (0, 0))) := ⟨HR.out.1.gr ((Gr.refl v1).alloc _), HR.out.2.1.alloc _, (((Gr.refl v1).alloc _).block (lt_of_row HR.out.2.2)).trans HR.out.2.2, heap_alloc_last v1 _⟩
        have hcb : v1.heap.size ≠ b := by have := HR.out.1.lt; omega
        have hcg : v1.heap.size ≠ g := by have := lt_of_row HR.out.2.2; omega
        have hcw : w.heap.size ≤ v1.heap.size := HR.out.2.1.size
        clear HR HG H0 HC0
        generalize v1.alloc (.cells #[.string k, .string { data := #[] }, .int .u32 0, .int .u32 0] 59) = W2 at *
        generalize v1.heap.size = cc at *
        go_wp2_with (first
          | (go_at_call 110; refine (c2 _ (HS.out.1)).out.mono ?_; clear c2; rintro r v2 ⟨rfl, hr, hc⟩; have HS2 := Lib.hid (And.intro hr (And.intro (HS.out.2.1.trans hc) (And.intro ((hc.block g (lt_of_row HS.out.2.2.1) hgb).trans HS.out.2.2.1) ((hc.block cc (lt_of_row HS.out.2.2.2) hcb).trans HS.out.2.2.2)))); clear hr hc)
          | (go_at_call 78; refine (c3 _ (HS2.out.1)).out.mono ?_; clear c3; rintro r v3 ⟨rfl, hr, hc⟩; have HS3 := Lib.hid (And.intro hr (And.intro (HS2.out.2.1.trans hc) (And.intro ((hc.block g (lt_of_row HS2.out.2.2.1) hgb).trans HS2.out.2.2.1) ((hc.block cc (lt_of_row HS2.out.2.2.2) hcb).trans HS2.out.2.2.2)))); clear hr hc)
          | (go_at_call 78; refine (c4 _ (HS3.out.1)).out.mono ?_; clear c4; rintro r v4 ⟨rfl, hr, hc⟩; have HS4 := Lib.hid (And.intro hr (And.intro (HS3.out.2.1.trans hc) (And.intro ((hc.block g (lt_of_row HS3.out.2.2.1) hgb).trans HS3.out.2.2.1) ((hc.block cc (lt_of_row HS3.out.2.2.2) hcb).trans HS3.out.2.2.2)))); clear hr hc; have x0 := row_cell HS4.out.2.2.2 0 _ rfl; have y0 := frozen_of_row _ _ 0 _ _ HS4.out.2.2.2; have z0 := row_cell HS4.out.2.2.1 0 _ rfl; have f0 := frozen_of_row _ _ 0 _ _ HS4.out.2.2.1; have x1 := row_cell HS4.out.2.2.2 1 _ rfl; have y1 := frozen_of_row _ _ 1 _ _ HS4.out.2.2.2; have z1 := row_cell HS4.out.2.2.1 1 _ rfl; have f1 := frozen_of_row _ _ 1 _ _ HS4.out.2.2.1; have x2 := row_cell HS4.out.2.2.2 2 _ rfl; have y2 := frozen_of_row _ _ 2 _ _ HS4.out.2.2.2; have z2 := row_cell HS4.out.2.2.1 2 _ rfl; have f2 := frozen_of_row _ _ 2 _ _ HS4.out.2.2.1; have x3 := row_cell HS4.out.2.2.2 3 _ rfl; have y3 := frozen_of_row _ _ 3 _ _ HS4.out.2.2.2; have z3 := row_cell HS4.out.2.2.1 3 _ rfl; have f3 := frozen_of_row _ _ 3 _ _ HS4.out.2.2.1)
          | (go_at_call 112; refine (oct_fail b s4 e4 4 _ (HS4.out.1.of_block ((Below.heap_setCell _ _ _ _ (by show b ≠ cc; omega)).trans (Below.heap_setCell _ _ _ _ (by show b ≠ cc; omega))))).mono ?_; rintro r v5 ⟨rfl, hr, hc⟩; have HS5 := Lib.hid (And.intro hr (And.intro (((HS4.out.2.1.setFar hcw 2 _).setFar hcw 3 _).trans hc) (And.intro ((hc.block g (by rw [setCell_size, setCell_size]; exact lt_of_row HS4.out.2.2.1) hgb).trans ((Below.heap_setCell _ _ _ _ (by show g ≠ cc; omega)).trans ((Below.heap_setCell _ _ _ _ (by show g ≠ cc; omega)).trans HS4.out.2.2.1))) ((hc.block cc (by rw [setCell_size, setCell_size]; exact lt_of_row HS4.out.2.2.2) hcb).trans (heap_setCell_same _ _ 3 _ _ _ (heap_setCell_same _ _ 2 _ _ _ HS4.out.2.2.2)))))); clear hr hc x0 y0 z0 f0 x1 y1 z1 f1 x2 y2 z2 f2 x3 y3 z3 f3; have x0 := row_cell HS5.out.2.2.2 0 _ rfl; have y0 := frozen_of_row _ _ 0 _ _ HS5.out.2.2.2; have z0 := row_cell HS5.out.2.2.1 0 _ rfl; have f0 := frozen_of_row _ _ 0 _ _ HS5.out.2.2.1; have x1 := row_cell HS5.out.2.2.2 1 _ rfl; have y1 := frozen_of_row _ _ 1 _ _ HS5.out.2.2.2; have z1 := row_cell HS5.out.2.2.1 1 _ rfl; have f1 := frozen_of_row _ _ 1 _ _ HS5.out.2.2.1; have x2 := row_cell HS5.out.2.2.2 2 _ rfl; have y2 := frozen_of_row _ _ 2 _ _ HS5.out.2.2.2; have z2 := row_cell HS5.out.2.2.1 2 _ rfl; have f2 := frozen_of_row _ _ 2 _ _ HS5.out.2.2.1; have x3 := row_cell HS5.out.2.2.2 3 _ rfl; have y3 := frozen_of_row _ _ 3 _ _ HS5.out.2.2.2; have z3 := row_cell HS5.out.2.2.1 3 _ rfl; have f3 := frozen_of_row _ _ 3 _ _ HS5.out.2.2.1))
        refine bodyPost_ret (v := .agg #[.string k, .string { data := #[] }, .int .u32 0, .int .u32 (l : Nat)]) (results_cell_row rfl _ _ g _ #[.string k, .string { data := #[] }, .int .u32 0, .int .u32 (l : Nat)] (0, 0) (.struct _) rfl (heap_setCell_same _ _ 3 _ _ _ (heap_setCell_same _ _ 2 _ _ _ (heap_setCell_same _ _ 1 _ _ _ (heap_setCell_same _ _ 0 _ _ _ HS5.out.2.2.1)))) Try.underlying59 rfl (by kernel_rfl)) rfl ⟨?_, ?_, ?_⟩
        · rw [HQ.out]; rfl
        · rw [HQ.out]; exact HS5.out.1.of_block ((Below.heap_setCell _ _ _ _ (by show b ≠ g; omega)).trans ((Below.heap_setCell _ _ _ _ (by show b ≠ g; omega)).trans ((Below.heap_setCell _ _ _ _ (by show b ≠ g; omega)).trans (Below.heap_setCell _ _ _ _ (by show b ≠ g; omega)))))
        · exact ((((HS5.out.2.1.setFar (by rw [HGG.out]; exact Nat.le_refl _) 0 _).setFar (by rw [HGG.out]; exact Nat.le_refl _) 1 _).setFar (by rw [HGG.out]; exact Nat.le_refl _) 2 _).setFar (by rw [HGG.out]; exact Nat.le_refl _) 3 _)
      · rw [if_neg hc0] at hq
        have HQ := Lib.hid hq
        clear hq
        have hc1 : ¬ (c : Int) = 0 := by omega
        go_enter Try.func69, Try.ntmps69
        go_wp2_with (fail)
        generalize w.alloc (.cells #[.string { data := #[] }, .string { data := #[] }, .int .u32 0, .int .u32 0] 59) = W at *
        have hgb : w.heap.size ≠ b := by omega
        obtain ⟨g, hgg⟩ : ∃ g, g = w.heap.size := ⟨_, rfl⟩
        have HGG := Lib.hid hgg
        rw [← hgg] at HG hlt hgb ⊢
        clear hgg
        go_wp2_with (go_at_call 77; refine (c1 _ H0.out).out.mono ?_; clear c1; rintro r v1 ⟨rfl, hr, hc⟩; have HR := Lib.hid (And.intro hr (And.intro (HC0.out.trans hc) ((hc.block g (lt_of_row HG.out) hgb).trans HG.out))); clear hr hc)
        have HS : Hid (RdAt (v1.alloc (.cells #[.string k, .string { data := #[] }, .int .u32 0, .int .u32 0] 59)) b s1 e1 ∧ Ch b w (v1.alloc (.cells #[.string k, .string { data := #[] }, .int .u32 0, .int .u32 0] 59)) ∧ (v1.alloc (.cells #[.string k, .string { data := #[] }, .int .u32 0, .int .u32 0] 59)).heap[g]? = some (.cells #[.string { data := #[] }, .string { data := #[] }, .int .u32 0, .int .u32 0] 59 (0, 0)) ∧ (v1.alloc (.cells #[.string k, .string { data := #[] }, .int .u32 0, .int .u32 0] 59)).heap[v1.heap.size]? = some (.cells #[.string k, .string { data := #[] }, .int .u32 0, .int .u32 0] 59 (0, 0))) := ⟨HR.out.1.gr ((Gr.refl v1).alloc _), HR.out.2.1.alloc _, (((Gr.refl v1).alloc _).block (lt_of_row HR.out.2.2)).trans HR.out.2.2, heap_alloc_last v1 _⟩
        have hcb : v1.heap.size ≠ b := by have := HR.out.1.lt; omega
        have hcg : v1.heap.size ≠ g := by have := lt_of_row HR.out.2.2; omega
        have hcw : w.heap.size ≤ v1.heap.size := HR.out.2.1.size
        clear HR HG H0 HC0
        generalize v1.alloc (.cells #[.string k, .string { data := #[] }, .int .u32 0, .int .u32 0] 59) = W2 at *
        generalize v1.heap.size = cc at *
        go_wp2_with (first
          | (go_at_call 110; refine (c2 _ (HS.out.1)).out.mono ?_; clear c2; rintro r v2 ⟨rfl, hr, hc⟩; have HS2 := Lib.hid (And.intro hr (And.intro (HS.out.2.1.trans hc) (And.intro ((hc.block g (lt_of_row HS.out.2.2.1) hgb).trans HS.out.2.2.1) ((hc.block cc (lt_of_row HS.out.2.2.2) hcb).trans HS.out.2.2.2)))); clear hr hc)
          | (go_at_call 78; refine (c3 _ (HS2.out.1)).out.mono ?_; clear c3; rintro r v3 ⟨rfl, hr, hc⟩; have HS3 := Lib.hid (And.intro hr (And.intro (HS2.out.2.1.trans hc) (And.intro ((hc.block g (lt_of_row HS2.out.2.2.1) hgb).trans HS2.out.2.2.1) ((hc.block cc (lt_of_row HS2.out.2.2.2) hcb).trans HS2.out.2.2.2)))); clear hr hc)
          | (go_at_call 78; refine (c4 _ (HS3.out.1)).out.mono ?_; clear c4; rintro r v4 ⟨rfl, hr, hc⟩; have HS4 := Lib.hid (And.intro hr (And.intro (HS3.out.2.1.trans hc) (And.intro ((hc.block g (lt_of_row HS3.out.2.2.1) hgb).trans HS3.out.2.2.1) ((hc.block cc (lt_of_row HS3.out.2.2.2) hcb).trans HS3.out.2.2.2)))); clear hr hc; have x0 := row_cell HS4.out.2.2.2 0 _ rfl; have y0 := frozen_of_row _ _ 0 _ _ HS4.out.2.2.2; have z0 := row_cell HS4.out.2.2.1 0 _ rfl; have f0 := frozen_of_row _ _ 0 _ _ HS4.out.2.2.1; have x1 := row_cell HS4.out.2.2.2 1 _ rfl; have y1 := frozen_of_row _ _ 1 _ _ HS4.out.2.2.2; have z1 := row_cell HS4.out.2.2.1 1 _ rfl; have f1 := frozen_of_row _ _ 1 _ _ HS4.out.2.2.1; have x2 := row_cell HS4.out.2.2.2 2 _ rfl; have y2 := frozen_of_row _ _ 2 _ _ HS4.out.2.2.2; have z2 := row_cell HS4.out.2.2.1 2 _ rfl; have f2 := frozen_of_row _ _ 2 _ _ HS4.out.2.2.1; have x3 := row_cell HS4.out.2.2.2 3 _ rfl; have y3 := frozen_of_row _ _ 3 _ _ HS4.out.2.2.2; have z3 := row_cell HS4.out.2.2.1 3 _ rfl; have f3 := frozen_of_row _ _ 3 _ _ HS4.out.2.2.1))
        refine bodyPost_ret (v := .agg #[.string k, .string { data := #[] }, .int .u32 (c : Nat), .int .u32 (l : Nat)]) (results_cell_row rfl _ _ g _ #[.string k, .string { data := #[] }, .int .u32 (c : Nat), .int .u32 (l : Nat)] (0, 0) (.struct _) rfl (heap_setCell_same _ _ 3 _ _ _ (heap_setCell_same _ _ 2 _ _ _ (heap_setCell_same _ _ 1 _ _ _ (heap_setCell_same _ _ 0 _ _ _ ((Below.heap_setCell _ _ _ _ (by show g ≠ cc; omega)).trans ((Below.heap_setCell _ _ _ _ (by show g ≠ cc; omega)).trans HS4.out.2.2.1)))))) Try.underlying59 rfl (by kernel_rfl)) rfl ⟨?_, ?_, ?_⟩
        · rw [HQ.out]; rfl
        · rw [HQ.out]; exact HS4.out.1.of_block ((Below.heap_setCell _ _ _ _ (by show b ≠ g; omega)).trans ((Below.heap_setCell _ _ _ _ (by show b ≠ g; omega)).trans ((Below.heap_setCell _ _ _ _ (by show b ≠ g; omega)).trans ((Below.heap_setCell _ _ _ _ (by show b ≠ g; omega)).trans ((Below.heap_setCell _ _ _ _ (by show b ≠ cc; omega)).trans (Below.heap_setCell _ _ _ _ (by show b ≠ cc; omega)))))))
        · exact ((((((HS4.out.2.1.setFar hcw 2 _).setFar hcw 3 _).setFar (by rw [HGG.out]; exact Nat.le_refl _) 0 _).setFar (by rw [HGG.out]; exact Nat.le_refl _) 1 _).setFar (by rw [HGG.out]; exact Nat.le_refl _) 2 _).setFar (by rw [HGG.out]; exact Nat.le_refl _) 3 _)
    · rw [if_neg hm1] at hq
      have HQ := Lib.hid hq
      clear hq
      have hm2 : ¬ (m : Int) = 0 := by omega
      have hm3 : ¬ (m : Int) = 1 := by omega
      have cF := fun w1 h1' => Lib.hid (oct_fail b s2 e2 4 w1 h1')
      go_enter Try.func69, Try.ntmps69
      go_wp2_with (fail)
      generalize w.alloc (.cells #[.string { data := #[] }, .string { data := #[] }, .int .u32 0, .int .u32 0] 59) = W at *
      have hgb : w.heap.size ≠ b := by omega
      obtain ⟨g, hgg⟩ : ∃ g, g = w.heap.size := ⟨_, rfl⟩
      have HGG := Lib.hid hgg
      rw [← hgg] at HG hlt hgb ⊢
      clear hgg
      go_wp2_with (go_at_call 77; refine (c1 _ H0.out).out.mono ?_; clear c1; rintro r v1 ⟨rfl, hr, hc⟩; have HR := Lib.hid (And.intro hr (And.intro (HC0.out.trans hc) ((hc.block g (lt_of_row HG.out) hgb).trans HG.out))); clear hr hc)
      have HS : Hid (RdAt (v1.alloc (.cells #[.string k, .string { data := #[] }, .int .u32 0, .int .u32 0] 59)) b s1 e1 ∧ Ch b w (v1.alloc (.cells #[.string k, .string { data := #[] }, .int .u32 0, .int .u32 0] 59)) ∧ (v1.alloc (.cells #[.string k, .string { data := #[] }, .int .u32 0, .int .u32 0] 59)).heap[g]? = some (.cells #[.string { data := #[] }, .string { data := #[] }, .int .u32 0, .int .u32 0] 59 (0, 0)) ∧ (v1.alloc (.cells #[.string k, .string { data := #[] }, .int .u32 0, .int .u32 0] 59)).heap[v1.heap.size]? = some (.cells #[.string k, .string { data := #[] }, .int .u32 0, .int .u32 0] 59 (0, 0))) := ⟨HR.out.1.gr ((Gr.refl v1).alloc _), HR.out.2.1.alloc _, (((Gr.refl v1).alloc _).block (lt_of_row HR.out.2.2)).trans HR.out.2.2, heap_alloc_last v1 _⟩
      have hcb : v1.heap.size ≠ b := by have := HR.out.1.lt; omega
      have hcg : v1.heap.size ≠ g := by have := lt_of_row HR.out.2.2; omega
      have hcw : w.heap.size ≤ v1.heap.size := HR.out.2.1.size
      clear HR HG H0 HC0
      generalize v1.alloc (.cells #[.string k, .string { data := #[] }, .int .u32 0, .int .u32 0] 59) = W2 at *
      generalize v1.heap.size = cc at *
      go_wp2_with (first
        | (go_at_call 110; refine (c2 _ (HS.out.1)).out.mono ?_; clear c2; rintro r v2 ⟨rfl, hr, hc⟩; have HS2 := Lib.hid (And.intro hr (And.intro (HS.out.2.1.trans hc) (And.intro ((hc.block g (lt_of_row HS.out.2.2.1) hgb).trans HS.out.2.2.1) ((hc.block cc (lt_of_row HS.out.2.2.2) hcb).trans HS.out.2.2.2)))); clear hr hc)
        | (go_at_call 112; refine (cF _ (HS2.out.1)).out.mono ?_; clear cF; rintro r v3 ⟨rfl, hr, hc⟩; have HS3 := Lib.hid (And.intro hr (And.intro (HS2.out.2.1.trans hc) (And.intro ((hc.block g (lt_of_row HS2.out.2.2.1) hgb).trans HS2.out.2.2.1) ((hc.block cc (lt_of_row HS2.out.2.2.2) hcb).trans HS2.out.2.2.2)))); clear hr hc; have x0 := row_cell HS3.out.2.2.2 0 _ rfl; have y0 := frozen_of_row _ _ 0 _ _ HS3.out.2.2.2; have z0 := row_cell HS3.out.2.2.1 0 _ rfl; have f0 := frozen_of_row _ _ 0 _ _ HS3.out.2.2.1; have x1 := row_cell HS3.out.2.2.2 1 _ rfl; have y1 := frozen_of_row _ _ 1 _ _ HS3.out.2.2.2; have z1 := row_cell HS3.out.2.2.1 1 _ rfl; have f1 := frozen_of_row _ _ 1 _ _ HS3.out.2.2.1; have x2 := row_cell HS3.out.2.2.2 2 _ rfl; have y2 := frozen_of_row _ _ 2 _ _ HS3.out.2.2.2; have z2 := row_cell HS3.out.2.2.1 2 _ rfl; have f2 := frozen_of_row _ _ 2 _ _ HS3.out.2.2.1; have x3 := row_cell HS3.out.2.2.2 3 _ rfl; have y3 := frozen_of_row _ _ 3 _ _ HS3.out.2.2.2; have z3 := row_cell HS3.out.2.2.1 3 _ rfl; have f3 := frozen_of_row _ _ 3 _ _ HS3.out.2.2.1))
      refine bodyPost_ret (v := .agg #[.string k, .string { data := #[] }, .int .u32 0, .int .u32 0]) (results_cell_row rfl _ _ g _ #[.string k, .string { data := #[] }, .int .u32 0, .int .u32 0] (0, 0) (.struct _) rfl (heap_setCell_same _ _ 3 _ _ _ (heap_setCell_same _ _ 2 _ _ _ (heap_setCell_same _ _ 1 _ _ _ (heap_setCell_same _ _ 0 _ _ _ HS3.out.2.2.1)))) Try.underlying59 rfl (by kernel_rfl)) rfl ⟨?_, ?_, ?_⟩
      · rw [HQ.out]; rfl
      · rw [HQ.out]; exact HS3.out.1.of_block ((Below.heap_setCell _ _ _ _ (by show b ≠ g; omega)).trans ((Below.heap_setCell _ _ _ _ (by show b ≠ g; omega)).trans ((Below.heap_setCell _ _ _ _ (by show b ≠ g; omega)).trans (Below.heap_setCell _ _ _ _ (by show b ≠ g; omega)))))
      · exact ((((HS3.out.2.1.setFar (by rw [HGG.out]; exact Nat.le_refl _) 0 _).setFar (by rw [HGG.out]; exact Nat.le_refl _) 1 _).setFar (by rw [HGG.out]; exact Nat.le_refl _) 2 _).setFar (by rw [HGG.out]; exact Nat.le_refl _) 3 _)
end Go.Proofs.Ytmpmfgkabjedpaa
namespace Go.Proofs.Ytmpmfgkabjedpaa
open Go.RowKit
set_option linter.unusedVariables false
set_option linter.unusedSimpArgs false
structure Rq {α : Type} (e nn : Nat) (enc : α → List Value) (w wr : World) (g b1 b2 : Nat) (O : Obj) (A : Option Addr) (cap : Nat) (l : List α) (S1 : ByteArray) (e1 : Int) (S2 : ByteArray) (e2 : Int) : Prop where
  gr : Gr w wr
  row : wr.heap[g]? = some O
  r1 : RdAt wr b1 S1 e1
  r2 : RdAt wr b2 S2 e2
  own : Own wr (b2 + 1) e nn enc A cap l
  lo : w.heap.size ≤ g ∧ g < b1 ∧ b1 < b2
section
variable {α : Type} {e nn : Nat} {enc : α → List Value} {w wr w' : World} {g b1 b2 : Nat} {O : Obj} {A : Option Addr} {cap : Nat} {l : List α} {S1 : ByteArray} {e1 : Int} {S2 : ByteArray} {e2 : Int}
theorem Rq.sep (h : Rq e nn enc w wr g b1 b2 O A cap l S1 e1 S2 e2) : ownOf A ≠ some b1 ∧ ownOf A ≠ some b2 ∧ ownOf A ≠ some g := by
  have hl := h.lo
  refine ⟨fun he => ?_, fun he => ?_, fun he => ?_⟩
  all_goals have := (h.own.lt he).2; omega
theorem Rq.gr' (h : Rq e nn enc w wr g b1 b2 O A cap l S1 e1 S2 e2) (hg : Gr wr w') : Rq e nn enc w w' g b1 b2 O A cap l S1 e1 S2 e2 :=
  ⟨h.gr.trans hg, (hg.block (lt_of_row h.row)).trans h.row, h.r1.gr hg, h.r2.gr hg, h.own.gr hg, h.lo⟩
theorem Rq.ch1 {S1' : ByteArray} {e1' : Int} (h : Rq e nn enc w wr g b1 b2 O A cap l S1 e1 S2 e2) (hc : Ch b1 wr w') (hr : RdAt w' b1 S1' e1') : Rq e nn enc w w' g b1 b2 O A cap l S1' e1' S2 e2 := by
  have hl := h.lo
  exact ⟨hc.gr h.gr (by omega), (hc.block g (lt_of_row h.row) (by omega)).trans h.row, hr, h.r2.ch hc (by omega), h.own.ch hc h.sep.1, h.lo⟩
theorem Rq.ch2 {S2' : ByteArray} {e2' : Int} (h : Rq e nn enc w wr g b1 b2 O A cap l S1 e1 S2 e2) (hc : Ch b2 wr w') (hr : RdAt w' b2 S2' e2') : Rq e nn enc w w' g b1 b2 O A cap l S1 e1 S2' e2' := by
  have hl := h.lo
  exact ⟨hc.gr h.gr (by omega), (hc.block g (lt_of_row h.row) (by omega)).trans h.row, h.r1.ch hc (by omega), hr, h.own.ch hc h.sep.2.1, h.lo⟩
theorem Rq.push {A' : Option Addr} {cap' n : Nat} {l' : List α} (h : Rq e nn enc w wr g b1 b2 O A cap l S1 e1 S2 e2) (hg : wr.grownBy w' (Value.slice A n cap).ownBlock) (ho : Own w' (b2 + 1) e nn enc A' cap' l') : Rq e nn enc w w' g b1 b2 O A' cap' l' S1 e1 S2 e2 := by
  have hl := h.lo
  have h1 := h.r1.lt
  have h2 := h.r2.lt
  have hs := h.sep
  rw [ownOf_eq] at hg
  have hb : ∀ j, j < wr.heap.size → ownOf A ≠ some j → w'.heap[j]? = wr.heap[j]? := fun j hj hne => hg.block j hj (fun he => hne he.symm)
  refine ⟨⟨hg.os.trans (Below.os h.gr), hg.tape.trans (Below.tape h.gr), hg.output.trans (Below.output h.gr), Nat.le_trans (Below.size h.gr) hg.size, fun j hj => ?_⟩, ?_, ?_, ?_, ho, h.lo⟩
  · rw [hb j (Nat.lt_of_lt_of_le hj (Below.size h.gr)) (fun he => by have := (h.own.lt he).2; omega)]
    exact Below.block h.gr j hj
  · exact (hb g (lt_of_row h.row) hs.2.2).trans h.row
  · exact h.r1.of_block (hb b1 h1 hs.1)
  · exact h.r2.of_block (hb b2 h2 hs.2.1)
end
theorem rdNum_two (l : List UInt8) (h : 2 ≤ l.length) : rdNum (B l) 0 2 = (Oct.num (l.take 2), B (l.drop 2), 0) := by
  have := rdTake_ahead' (l.take 2) (l.drop 2) 2 (by rw [List.length_take]; omega)
  rw [List.take_append_drop] at this
  unfold rdNum
  rw [this]
  rfl
theorem slot_at (D : List UInt8) (n k : Nat) (hk : k < n) (hn : 2 * n ≤ D.length) : rdNum (B ((D.take (2 * n)).drop (2 * k))) 0 2 = (Oct.num ((D.drop (2 * k)).take 2), B ((D.take (2 * n)).drop (2 * (k + 1))), 0) := by
  rw [rdNum_two _ (by rw [List.length_drop, List.length_take]; omega), List.drop_drop, List.drop_take, List.take_take]
  rw [Nat.min_eq_left (by omega), show 2 * k + 2 = 2 * (k + 1) by omega]
theorem ceCan_lt {x : Ce} (h : ceCan x) : ceU x := by
  obtain ⟨k, v, c, l⟩ := x
  obtain ⟨_, h⟩ := h
  simp only at h
  by_cases hc : c = 0
  · rw [if_pos hc] at h; exact ⟨by simp only; omega, by simp only; omega⟩
  · rw [if_neg hc] at h; exact ⟨h.2.1, h.2.2⟩
end Go.Proofs.Ytmpmfgkabjedpaa
