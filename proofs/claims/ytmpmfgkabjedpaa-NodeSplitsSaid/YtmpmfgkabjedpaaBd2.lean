/- strings.Builder with its frame: written, measured, told. -/
import Derived.Test.YtmpmfgkabjedpaaBd
import Derived.Test.YtmpmfgkabjedpaaShelf
namespace Go.Proofs.Ytmpmfgkabjedpaa
open Go.RowKit
set_option linter.unusedVariables false
set_option linter.unusedSimpArgs false
set_option maxRecDepth 100000
set_option maxHeartbeats 1000000
theorem wpList_ap {P : Program} {ops : Array Oper} {rest : List Oper} {o : Oper} {a : Act} {w : World} {Q : Exit → Act → World → Prop} (hgd : o.guard = none) (sl x : Operand) (t u : TypeId)
    (ho : o.op = .call { callee := .builtin .append, args := #[sl, x], argTypes := #[t, u] })
    (base : Nat) (e : TypeId) (i : TypeInfo) (ht : P.underlying t = some (.slice e)) (hu : P.underlying u = some .string) (hi : P.info? e = some i) (hz : i.zero = some (.int .u8 0))
    (hsize : i.size = 1) (hby : i.bytes = 1) (v : Value) (n : Nat) (xs : List Value) (hs : a.eval sl = v) (hown : w.ownsRow base e 1 v n xs) (s : ByteArray) (hx : a.eval x = .string s)
    (hb : n + s.size ≤ 140737488355328) (hbase : base ≤ w.heap.size)
    (h : ∀ v' w', w'.ownsRow base e 1 v' (n + s.size) (xs ++ Lib.strCells s) → w.grownBy w' v.ownBlock → (v'.ownBlock = v.ownBlock ∨ ∀ g, v'.ownBlock = some g → w.heap.size ≤ g) → (v = .slice none 0 0 → s.size = 0 → v' = .slice none 0 0) → wpList P ops Q rest (a.put o.dst v') w') : wpList P ops Q (o :: rest) a w := by
  obtain ⟨v', w', hr, h2, h3, h4, h5⟩ := ap_str P w base t u o.type e i ht hu hi hz hsize hby v n xs hown s hb hbase
  refine wpList_plain hgd fun K hK => ?_
  have hgo := hK _ _ (h v' w' h2 h3 h4 h5)
  unfold Oper.wp execOp
  simp only [ho, resolve, invoke, builtin, Sem.run_bind, Sem.run_pure, Result.andThen_ok, List.map_toArray, List.map_cons, List.map_nil, hs, hx, hr]
  exact hgo
theorem bd_put (b : Nat) (G : Option Nat) (l : List UInt8) (s : ByteArray) (w : World) (h : Bd w b G l) (hlen : l.length + s.size ≤ 140737488355328) :
    Calls Try.prog 88 #[.pointer (some ⟨b, 0, none⟩), .string s] w fun e w' => ∃ G', e = .returned (.tuple #[.int .i64 s.size, .nilIface]) ∧ Bd w' b G' (l ++ s.data.toList) ∧ Kp b G w w' ∧ (G' = G ∨ ∀ g, G' = some g → w.heap.size ≤ g) := by
  obtain ⟨i0, hi, hz0, hz1, hz2⟩ := info_parts bld_infoByte
  have hblk := h.blk
  obtain ⟨p, v, hp, hrow, hown, hne, rfl, hnil⟩ := h
  have cK := Lib.hid (bd_check b p v w hp hrow)
  have HO := Lib.hid hown
  have HNE := Lib.hid hne
  have HNIL := Lib.hid hnil
  have HB := Lib.hid hblk
  clear hp hrow hown hne hnil hblk
  go_enter Try.func88, Try.ntmps88
  go_wp2_with (go_at_call 116; refine cK.out.mono ?_)
  rintro e w1 ⟨rfl, hrow1, hk1⟩
  have c0 : w1.cell? ⟨b, 0, none⟩ = some (.pointer (some ⟨b, 0, none⟩)) := by rw [cell_of_row _ _ 0 _ _ _ hrow1]; rfl
  have c1 : w1.cell? ⟨b, 1, none⟩ = some v := by rw [cell_of_row _ _ 1 _ _ _ hrow1]; rfl
  have hown1 : w1.ownsRow b 5 1 v l.length (Lib.byteCells l) := by
    refine ⟨HO.out.1, ?_⟩
    rcases HO.out.2 with hn | ⟨g, cap, cur, rfl, hb, hgg, rest⟩
    · exact .inl hn
    · refine .inr ⟨g, cap, cur, rfl, hb, ?_, rest⟩
      have hgb := HB.out.2 g rfl
      rw [hk1.block g hgb.2 (by omega) (by simp)]
      exact hgg
  have HK := Lib.hid (And.intro hown1 (And.intro hrow1 hk1))
  clear hown1 hrow1 hk1
  go_wp2_with (at_builtin; refine wpList_ap rfl _ _ 133 9 rfl b 5 i0 Try.underlying133 Try.underlying9 hi hz0 hz1 hz2 _ _ _ rfl HK.out.1 s rfl ?c4 ?c5 ?_)
  case c4 => omega
  case c5 => have := HK.out.2.2.size; have := HB.out.1; omega
  intro v' w2 hown' hgrow hown2 hnil2
  have hlt : b < w1.heap.size := by have := HK.out.2.2.size; have := HB.out.1; omega
  have hb2 : w2.heap[b]? = some (.cells #[.pointer (some ⟨b, 0, none⟩), v] 135 (0, 0)) := by
    rw [hgrow.block b hlt (fun e => HNE.out e.symm)]
    exact HK.out.2.1
  have d0 : w2.cell? ⟨b, 0, none⟩ = some (.pointer (some ⟨b, 0, none⟩)) := by rw [cell_of_row _ _ 0 _ _ _ hb2]; rfl
  have d1 : w2.cell? ⟨b, 1, none⟩ = some v := by rw [cell_of_row _ _ 1 _ _ _ hb2]; rfl
  have f1 : w2.frozen? ⟨b, 1, none⟩ = false := frozen_of_row _ _ 1 _ _ hb2
  obtain ⟨ao, n', cap, rfl⟩ : ∃ ao n' cap, v' = .slice ao n' cap := by
    rcases hown'.2 with ⟨hv, _⟩ | ⟨g, cap, cur, hv, _⟩
    · exact ⟨_, _, _, hv⟩
    · exact ⟨_, _, _, hv⟩
  have HW2 := Lib.hid (And.intro hown' (And.intro hgrow (And.intro hown2 (And.intro hnil2 hb2))))
  clear hown' hgrow hown2 hnil2 hb2
  go_wp2
  go_ret2
  have hne2 : (Value.slice ao n' cap).ownBlock ≠ some b := by
    rcases HW2.out.2.2.1 with he | he
    · rw [he]; exact HNE.out
    · intro hx; have := he b hx; omega
  have hs1 := HK.out.2.2.size
  refine ⟨_, rfl, ⟨.pointer (some ⟨b, 0, none⟩), .slice ao n' cap, .inr rfl, heap_setCell_same _ _ 1 _ _ _ HW2.out.2.2.2.2, ?_, hne2, rfl, ?_⟩, ?_, ?_⟩
  · rw [List.length_append, Lib.byteCells_append]
    have hl2 : s.data.toList.length = s.size := by simp
    rw [hl2, ← Lib.strCells_eq]
    refine ⟨by simpa using HW2.out.1.1, ?_⟩
    rcases HW2.out.1.2 with hn | ⟨g, cap2, cur, hv, hbg, hgg, rest⟩
    · exact .inl hn
    · refine .inr ⟨g, cap2, cur, hv, hbg, ?_, rest⟩
      have hgb : g ≠ b := fun e => hne2 (by rw [hv, e]; rfl)
      have hgl : g < w2.heap.size := by
        rcases Nat.lt_or_ge g w2.heap.size with h2 | h2
        · exact h2
        · rw [Array.getElem?_eq_none h2] at hgg; cases hgg
      rw [((Ch.refl b w2).setCell 1 _).block g hgl hgb]
      exact hgg
  · intro he
    have h1 := List.append_eq_nil_iff.1 he
    have hz : s.size = 0 := by
      have := congrArg List.length h1.2
      simpa using this
    have hse : s = ByteArray.empty := by apply ByteArray.ext; apply Array.eq_empty_of_size_eq_zero; exact hz
    exact HW2.out.2.2.2.1 (HNIL.out h1.1) hse
  · refine ⟨HW2.out.2.1.os.trans HK.out.2.2.os, HW2.out.2.1.tape.trans HK.out.2.2.tape, HW2.out.2.1.output.trans HK.out.2.2.output, ?_, ?_⟩
    · rw [setCell_size]; exact Nat.le_trans HK.out.2.2.size HW2.out.2.1.size
    · intro k hk hkb hkG
      rw [((Ch.refl b w2).setCell 1 _).block k (by have := HW2.out.2.1.size; omega) hkb, HW2.out.2.1.block k (by omega) hkG]
      exact HK.out.2.2.block k hk hkb (by simp)
  · rcases HW2.out.2.2.1 with he | he
    · exact .inl he
    · exact .inr fun g hg => by have := he g hg; omega
theorem bd_len (b : Nat) (G : Option Nat) (l : List UInt8) (w : World) (h : Bd w b G l) :
    Calls Try.prog 90 #[.pointer (some ⟨b, 0, none⟩)] w fun e w' => e = .returned (.int .i64 (l.length : Nat)) ∧ w' = w := by
  obtain ⟨p, v, hp, hrow, hown, hne, rfl, hnil⟩ := h
  have hb : Lib.IsBuilder 135 5 b b (Lib.byteCells l) w := by
    have hr : w.ownsRow b 5 1 v (Lib.byteCells l).length (Lib.byteCells l) := by rw [Lib.byteCells_length]; exact hown
    rcases hp with rfl | rfl
    · exact .inl ⟨Nat.le_refl _, v, hrow, hr, hne⟩
    · exact .inr ⟨Nat.le_refl _, v, hrow, hr, hne⟩
  refine (Try.Builder_Len b b _ w hb).mono ?_
  rintro e w' ⟨rfl, rfl⟩
  exact ⟨by rw [Lib.byteCells_length], rfl⟩
end Go.Proofs.Ytmpmfgkabjedpaa
