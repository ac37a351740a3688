/- Layer 6: which cells a body is. No program in sight. -/
import Derived.Test.YtbkcfadbjebbdaaSlParse
namespace Go.Proofs.Ytbkcfadbjebbdaa
set_option linter.unusedVariables false
set_option linter.unusedSimpArgs false
/-- what is laid is read, and what is read was laid -/
structure Rdg {α : Type} (get : ByteArray → Int → α × ByteArray × Int) (byt : α → ByteArray) (can : α → Prop) : Prop where
  ahead : ∀ x, can x → ∀ r, get (B ((byt x).data.toList ++ r)) 0 = (x, B r, 0)
  back : ∀ s t x, get s 0 = (x, t, 0) → can x ∧ s = byt x ++ t
theorem rdg_ce : Rdg rdCe lfB ceCan := ⟨rdCe_ahead, fun _ _ _ h => (rdCe_back h).2⟩
theorem rdg_ki : Rdg rdKi kiB kiCan := ⟨rdKi_ahead, fun _ _ _ h => (rdKi_back h).2⟩
/-- the bytes D are the cells L, so many -/
def Lay {α : Type} (byt : α → ByteArray) (can : α → Prop) (D : List UInt8) (count : Nat) (L : List α) : Prop :=
  L.length = count ∧ (∀ x ∈ L, can x) ∧ D = slAt count (L.map byt) 0 ++ slCells (L.map byt)
/-- the first k of them are l; t is ahead -/
def Mid {α : Type} (byt : α → ByteArray) (can : α → Prop) (D : List UInt8) (count k : Nat) (l : List α) (t : List UInt8) : Prop :=
  l.length = k ∧ (∀ x ∈ l, can x) ∧ D.drop (2 * count) = slCells (l.map byt) ++ t ∧ D.take (2 * k) = slAt count (l.map byt) 0
theorem slAt_append (n : Nat) : ∀ (xs bs : List ByteArray) (o : Nat), slAt n (xs ++ bs) o = slAt n xs o ++ slAt n bs (o + (slCells xs).length)
  | [], bs, o => by simp [slAt, slCells]
  | a :: xs, bs, o => by
    show Oct.be (2 * n + o) 2 ++ slAt n (xs ++ bs) (o + a.size) = (Oct.be (2 * n + o) 2 ++ slAt n xs (o + a.size)) ++ _
    rw [slAt_append n xs bs (o + a.size), slCells_cons, List.length_append, List.append_assoc]
    have : a.data.toList.length = a.size := by simp
    rw [this, Nat.add_assoc]
theorem slCells_append (xs bs : List ByteArray) : slCells (xs ++ bs) = slCells xs ++ slCells bs := by unfold slCells; rw [List.flatMap_append]
section
variable {α : Type} {get : ByteArray → Int → α × ByteArray × Int} {byt : α → ByteArray} {can : α → Prop}
theorem Rdg.pre (h : Rdg get byt can) : ∀ (l L : List α) (t : List UInt8), (∀ x ∈ l, can x) → (∀ x ∈ L, can x) → l.length ≤ L.length → slCells (L.map byt) = slCells (l.map byt) ++ t → L.take l.length = l ∧ slCells ((L.drop l.length).map byt) = t
  | [], L, t, _, _, _, he => by simpa [slCells] using he
  | x :: l, [], t, _, _, hl, _ => by simp at hl
  | x :: l, y :: L, t, h1, h2, hl, he => by
    simp only [List.map_cons, slCells_cons, List.append_assoc] at he
    have hx := h.ahead x (h1 x (by simp)) (slCells (l.map byt) ++ t)
    have hy := h.ahead y (h2 y (by simp)) (slCells (L.map byt))
    rw [he, hx] at hy
    simp only [Prod.mk.injEq, and_true] at hy
    obtain ⟨rfl, hb⟩ := hy
    have hb2 : slCells (l.map byt) ++ t = slCells (L.map byt) := by
      have := congrArg (fun b : ByteArray => b.data.toList) hb
      simpa [B] using this
    have ih := h.pre l L t (fun z hz => h1 z (by simp [hz])) (fun z hz => h2 z (by simp [hz])) (by simpa using hl) hb2.symm
    simp only [List.length_cons, List.take_succ_cons, List.drop_succ_cons]
    exact ⟨by rw [ih.1], ih.2⟩
theorem Lay.len {D : List UInt8} {count : Nat} {L : List α} (h : Lay byt can D count L) : 2 * count ≤ D.length := by
  rw [h.2.2, List.length_append, slAt_length, List.length_map, h.1]; omega
theorem Lay.drop {D : List UInt8} {count : Nat} {L : List α} (h : Lay byt can D count L) : D.drop (2 * count) = slCells (L.map byt) := by
  rw [h.2.2, List.drop_append_of_le_length (by rw [slAt_length, List.length_map, h.1]; omega), List.drop_of_length_le (by rw [slAt_length, List.length_map, h.1]; omega), List.nil_append]
theorem Mid.start (D : List UInt8) (count : Nat) : Mid byt can D count 0 [] (D.drop (2 * count)) := ⟨rfl, fun x hx => by simp at hx, by simp [slCells], by simp [slAt]⟩
theorem Mid.split (h : Rdg get byt can) {D : List UInt8} {count k : Nat} {l L : List α} {t : List UInt8} (hm : Mid byt can D count k l t) (hL : Lay byt can D count L) (hk : k ≤ count) : L.take k = l ∧ slCells ((L.drop k).map byt) = t := by
  have := h.pre l L t hm.2.1 hL.2.1 (by rw [hm.1, hL.1]; exact hk) (by rw [← hL.drop, hm.2.2.1])
  rwa [hm.1] at this
theorem Mid.next (h : Rdg get byt can) {D : List UInt8} {count k : Nat} {l L : List α} {t : List UInt8} (hm : Mid byt can D count k l t) (hL : Lay byt can D count L) (hk : k < count) :
    ∃ x rest, L = l ++ x :: rest ∧ can x ∧ t = (byt x).data.toList ++ slCells (rest.map byt) := by
  obtain ⟨h1, h2⟩ := hm.split h hL (Nat.le_of_lt hk)
  have hlt : k < L.length := by rw [hL.1]; exact hk
  refine ⟨L[k], L.drop (k + 1), ?_, hL.2.1 _ (List.getElem_mem hlt), ?_⟩
  · rw [← h1, ← List.drop_eq_getElem_cons hlt, List.take_append_drop]
  · rw [← h2, List.drop_eq_getElem_cons hlt, List.map_cons, slCells_cons]
/-- a slot that says another place: these bytes are no cells -/
theorem Mid.slot (h : Rdg get byt can) {D : List UInt8} {count k : Nat} {l L : List α} {t : List UInt8} (hm : Mid byt can D count k l t) (hL : Lay byt can D count L) (hk : k < count) (hb : 2 * count + (slCells (l.map byt)).length < 65536) :
    Oct.num ((D.drop (2 * k)).take 2) = 2 * count + (slCells (l.map byt)).length := by
  obtain ⟨x, rest, hLe, _, _⟩ := hm.next h hL hk
  have hD : D = slAt count (l.map byt) 0 ++ (Oct.be (2 * count + (slCells (l.map byt)).length) 2 ++ (slAt count (rest.map byt) (0 + (slCells (l.map byt)).length + (byt x).size) ++ slCells (L.map byt))) := by
    rw [hL.2.2]
    conv => lhs; rw [hLe]
    rw [List.map_append, List.map_cons, slAt_append]
    simp only [slAt, List.append_assoc, Nat.zero_add]
    rw [← List.map_cons, ← List.map_append, ← hLe]
  have hd : D.drop (2 * k) = Oct.be (2 * count + (slCells (l.map byt)).length) 2 ++ (slAt count (rest.map byt) (0 + (slCells (l.map byt)).length + (byt x).size) ++ slCells (L.map byt)) := by
    conv => lhs; rw [hD]
    have hl : (slAt count (l.map byt) 0).length = 2 * k := by rw [slAt_length, List.length_map, hm.1]
    rw [← hl, List.drop_left]
  rw [hd, List.take_append_of_le_length (by rw [Oct.be_length]; omega), List.take_of_length_le (by rw [Oct.be_length]; omega), Oct.num_be _ 2 (by omega)]
theorem Mid.push (h : Rdg get byt can) {D : List UInt8} {count k : Nat} {l : List α} {t : List UInt8} (hm : Mid byt can D count k l t) (hlen : 2 * k + 2 ≤ D.length) (hs : Oct.num ((D.drop (2 * k)).take 2) = 2 * count + (slCells (l.map byt)).length)
    {x : α} {t' : ByteArray} (hg : get (B t) 0 = (x, t', 0)) : Mid byt can D count (k + 1) (l ++ [x]) t'.data.toList := by
  obtain ⟨hc, he⟩ := h.back _ _ _ hg
  have he2 : t = (byt x).data.toList ++ t'.data.toList := by
    have := congrArg (fun b : ByteArray => b.data.toList) he
    simpa [B] using this
  refine ⟨by rw [List.length_append, hm.1]; rfl, fun y hy => ?_, ?_, ?_⟩
  · rcases List.mem_append.1 hy with hy | hy
    · exact hm.2.1 y hy
    · simp only [List.mem_singleton] at hy; subst hy; exact hc
  · rw [hm.2.2.1, he2, List.map_append, slCells_append]
    simp [slCells]
  · have h2 : (D.drop (2 * k)).take 2 = Oct.be (2 * count + (slCells (l.map byt)).length) 2 := by
      have hl : ((D.drop (2 * k)).take 2).length = 2 := by rw [List.length_take, List.length_drop]; omega
      have := Oct.be_num ((D.drop (2 * k)).take 2)
      rw [hl, hs] at this
      exact this.symm
    have h3 : D.take (2 * (k + 1)) = D.take (2 * k) ++ (D.drop (2 * k)).take 2 := by
      rw [show 2 * (k + 1) = 2 * k + 2 by omega, List.take_add]
    rw [h3, hm.2.2.2, h2, List.map_append, slAt_append]
    simp [slAt]
theorem Mid.bad (h : Rdg get byt can) {D : List UInt8} {count k : Nat} {l L : List α} {t : List UInt8} (hm : Mid byt can D count k l t) (hL : Lay byt can D count L) (hk : k < count) : (get (B t) 0).2.2 = 0 := by
  obtain ⟨x, rest, _, hx, rfl⟩ := hm.next h hL hk
  rw [h.ahead x hx]
theorem Mid.over (h : Rdg get byt can) {D : List UInt8} {count : Nat} {l L : List α} {t : List UInt8} (hm : Mid byt can D count count l t) (hL : Lay byt can D count L) : t = [] ∧ L = l := by
  obtain ⟨h1, h2⟩ := hm.split h hL (Nat.le_refl _)
  rw [List.drop_of_length_le (by rw [hL.1]; exact Nat.le_refl _)] at h2
  rw [List.take_of_length_le (by rw [hL.1]; exact Nat.le_refl _)] at h1
  exact ⟨by simpa [slCells] using h2.symm, h1⟩
theorem Mid.lay {D : List UInt8} {count : Nat} {l : List α} (hm : Mid byt can D count count l []) : Lay byt can D count l := by
  refine ⟨hm.1, hm.2.1, ?_⟩
  have h1 := hm.2.2.1
  rw [List.append_nil] at h1
  rw [← hm.2.2.2, ← h1, List.take_append_drop]
theorem Lay.one (h : Rdg get byt can) {D : List UInt8} {count : Nat} {l L : List α} (hl : Lay byt can D count l) (hL : Lay byt can D count L) : L = l := by
  have hm : Mid byt can D count count l [] := ⟨hl.1, hl.2.1, by rw [hl.drop, List.append_nil], by
    have h2 : (slAt count (l.map byt) 0).length = 2 * count := by rw [slAt_length, List.length_map, hl.1]
    conv => lhs; rw [hl.2.2]
    rw [← h2, List.take_left]⟩
  exact (hm.over h hL).2
open Classical in
noncomputable def rdAns (byt : α → ByteArray) (can : α → Prop) (bad : α → Bool) (key : α → ByteArray) (D : List UInt8) (count : Int) : List α × Int :=
  if h : ∃ L, 0 ≤ count ∧ Lay byt can D count.toNat L then (if rErr bad key h.choose = 0 then (h.choose, 0) else ([], rErr bad key h.choose)) else ([], 4)
theorem rdAns_some (h : Rdg get byt can) {bad : α → Bool} {key : α → ByteArray} {D : List UInt8} {count : Nat} {l : List α} (hl : Lay byt can D count l) : rdAns byt can bad key D count = if rErr bad key l = 0 then (l, 0) else ([], rErr bad key l) := by
  have he : ∃ L, 0 ≤ (count : Int) ∧ Lay byt can D (count : Int).toNat L := ⟨l, by omega, by rw [Int.toNat_natCast]; exact hl⟩
  unfold rdAns
  rw [dif_pos he]
  have h2 : ∀ L, Lay byt can D (count : Int).toNat L → L = l := fun L hL => hl.one h (by rwa [Int.toNat_natCast] at hL)
  rw [h2 _ he.choose_spec.2]
theorem rdAns_none {bad : α → Bool} {key : α → ByteArray} {D : List UInt8} {count : Nat} (hn : ∀ L, ¬ Lay byt can D count L) : rdAns byt can bad key D count = ([], 4) := by
  unfold rdAns
  rw [dif_neg]
  rintro ⟨L, _, hL⟩
  rw [Int.toNat_natCast] at hL
  exact hn L hL
theorem rdAns_neg {bad : α → Bool} {key : α → ByteArray} {D : List UInt8} {count : Int} (hn : count < 0) : rdAns byt can bad key D count = ([], 4) := by
  unfold rdAns
  rw [dif_neg]
  rintro ⟨L, h0, hL⟩
  omega
/-- what is answered: no error, and they are these cells; or an error, and none -/
theorem rdAns_cases (byt : α → ByteArray) (can : α → Prop) (bad : α → Bool) (key : α → ByteArray) (D : List UInt8) (count : Int) :
    (∃ l : List α, rdAns byt can bad key D count = (l, 0) ∧ 0 ≤ count ∧ Lay byt can D count.toNat l ∧ rErr bad key l = 0) ∨ (∃ e, e ≠ 0 ∧ rdAns byt can bad key D count = ([], e)) := by
  by_cases h : ∃ L, 0 ≤ count ∧ Lay byt can D count.toNat L
  · by_cases he : rErr bad key h.choose = 0
    · refine .inl ⟨h.choose, ?_, h.choose_spec.1, h.choose_spec.2, he⟩
      unfold rdAns; rw [dif_pos h, if_pos he]
    · refine .inr ⟨_, he, ?_⟩
      unfold rdAns; rw [dif_pos h, if_neg he]
  · refine .inr ⟨4, by omega, ?_⟩
    unfold rdAns; rw [dif_neg h]
end
end Go.Proofs.Ytbkcfadbjebbdaa
