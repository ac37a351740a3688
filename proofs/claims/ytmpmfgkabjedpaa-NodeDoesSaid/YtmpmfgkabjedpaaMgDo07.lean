/- strings.Builder as a list of bytes. -/
import Derived.Test.YtmpmfgkabjedpaaMgDo01
import Derived.Test.YtmpmfgkabjedpaaMgDo02
import Derived.Test.YtmpmfgkabjedpaaMgDo03
import Derived.Test.YtmpmfgkabjedpaaMgDo06
import Derived.Test.YtmpmfgkabjedpaaShelf
namespace Go.Proofs.Ytmpmfgkabjedpaa
open Go.RowKit
set_option linter.unusedVariables false
set_option linter.unusedSimpArgs false
set_option maxRecDepth 100000
/-- the block b is a builder that holds the bytes l; it and its buffer lie from B on -/
def Bld (w : World) (B b : Nat) (l : List UInt8) : Prop := Lib.IsBuilder 135 5 B b (Lib.byteCells l) w
theorem BldAt.of {T e B b : Nat} {p : Value} {bs : List Value} {w w' : World} (h : Lib.BuilderAt T e B b p bs w) (hk : ∀ k, B ≤ k → k < w.heap.size → w'.heap[k]? = w.heap[k]?) : Lib.BuilderAt T e B b p bs w' := by
  obtain ⟨hB, v, hb, ho, hn⟩ := h
  have hlt : ∀ {k : Nat} {o : Obj}, w.heap[k]? = some o → k < w.heap.size := fun {k o} hk => by
    rcases Nat.lt_or_ge k w.heap.size with h' | h'
    · exact h'
    · simp [Array.getElem?_eq_none h'] at hk
  refine ⟨hB, v, (hk b hB (hlt hb)).trans hb, ⟨ho.1, ?_⟩, hn⟩
  rcases ho.2 with h2 | ⟨g, c, cur, hv, hg, hh, hx⟩
  · exact .inl h2
  · exact .inr ⟨g, c, cur, hv, hg, (hk g hg (hlt hh)).trans hh, hx⟩
theorem Bld.gr {B b : Nat} {l : List UInt8} {w w' : World} (h : Bld w B b l) (hg : Gr w w') : Bld w' B b l := by
  rcases h with h | h
  · exact .inl (BldAt.of h fun k _ hk => hg.block hk)
  · exact .inr (BldAt.of h fun k _ hk => hg.block hk)
theorem Bld.lt {B b : Nat} {l : List UInt8} {w : World} (h : Bld w B b l) : B ≤ b ∧ b < w.heap.size := by
  have k : ∀ p, Lib.BuilderAt 135 5 B b p (Lib.byteCells l) w → B ≤ b ∧ b < w.heap.size := fun p h => by
    obtain ⟨hB, v, hb, _⟩ := h
    refine ⟨hB, ?_⟩
    rcases Nat.lt_or_ge b w.heap.size with h' | h'
    · exact h'
    · simp [Array.getElem?_eq_none h'] at hb
  rcases h with h | h
  · exact k _ h
  · exact k _ h
theorem Bld.new (w : World) : Bld (w.alloc (.cells #[.pointer none, .slice none 0 0] 135)) w.heap.size w.heap.size [] := Lib.fresh_isBuilder _ _ w
theorem bld_put (B b : Nat) (l : List UInt8) (s : ByteArray) (w : World) (h : Bld w B b l) (hlen : l.length + s.size ≤ 140737488355328) :
    Calls Try.prog 88 #[.pointer (some ⟨b, 0, none⟩), .string s] w fun e w' => e = .returned (.tuple #[.int .i64 s.size, .nilIface]) ∧ Bld w' B b (l ++ s.data.toList) ∧ Below B w w' := by
  have hl := h.lt
  refine (bld_write B b (Lib.byteCells l) s w h (by rw [Lib.byteCells_length]; exact hlen) (by omega)).mono ?_
  rintro e w' ⟨rfl, h1, h2⟩
  refine ⟨rfl, .inr ?_, h2⟩
  rw [Lib.byteCells_append, ← Lib.strCells_eq]
  exact h1
/-- nothing from B on was there: the call's own -/
theorem below_gr {B : Nat} {w w1 w2 : World} (h : Below B w1 w2) (hg : Gr w w1) (hb : w.heap.size ≤ B) : Gr w w2 :=
  Below.trans hg (Below.mono h hb)
end Go.Proofs.Ytmpmfgkabjedpaa
namespace Go.Proofs.Ytmpmfgkabjedpaa
open Go.RowKit
set_option linter.unusedVariables false
set_option linter.unusedSimpArgs false
set_option maxRecDepth 100000
set_option maxHeartbeats 1000000
theorem ap_str (P : Program) (w : World) (base : Nat) (t u ty e : TypeId) (i : TypeInfo) (ht : P.underlying t = some (.slice e)) (hu : P.underlying u = some .string) (hi : P.info? e = some i) (hz : i.zero = some (.int .u8 0))
    (hsize : i.size = 1) (hby : i.bytes = 1) (v : Value) (n : Nat) (xs : List Value) (hown : w.ownsRow base e 1 v n xs) (s : ByteArray) (hb : n + s.size ≤ 140737488355328) (hbase : base ≤ w.heap.size) :
    ∃ v' w', (Builtin.append_ #[t, u] ty #[v, .string s]).run P w = .ok v' w' ∧ w'.ownsRow base e 1 v' (n + s.size) (xs ++ Lib.strCells s) ∧ w.grownBy w' v.ownBlock ∧
      (v'.ownBlock = v.ownBlock ∨ ∀ g, v'.ownBlock = some g → w.heap.size ≤ g) ∧ (v = .slice none 0 0 → s.size = 0 → v' = .slice none 0 0) := by
  obtain ⟨v', w', hr, h1, h2, hnil⟩ := Lib.run_append_own_string (P := P) w base t u ty e i ht hu hi hz hsize hby v n xs hown s (by unfold maxLen; omega) hb hbase
  refine ⟨v', w', hr, h1, h2, ?_, fun a b => hnil.2 ⟨a, b⟩⟩
  rcases hown.2 with ⟨rfl, rfl⟩ | ⟨g, cap, cur, rfl, hbg, hg, hnc, hcm, hcs, htake⟩
  · have hx : xs = [] := List.eq_nil_of_length_eq_zero (by simpa using hown.1)
    subst hx
    obtain ⟨v2, w2, hr2, h12, _, _⟩ := Lib.run_append_own_string (P := P) w w.heap.size t u ty e i ht hu hi hz hsize hby (.slice none 0 0) 0 [] (World.ownsRow_nil _ _ _ _) s (by unfold maxLen; omega) hb (Nat.le_refl _)
    rw [hr] at hr2
    injection hr2 with ha hb2
    subst ha hb2
    exact .inr fun g hg => (h12.lt g hg).1
  · by_cases hroom : n + s.size ≤ cap
    · have hcs2 : cur.size = cap := by simpa using hcs
      have hr2 := Lib.run_append_room_string (P := P) (w := w) t u ty e i ht hu hi hsize g n cap cur hg s hroom (by omega)
      rw [hr] at hr2
      injection hr2 with ha hb2
      subst ha
      exact .inl rfl
    · have holds : ∀ j u, xs[j]? = some u → w.cell? ((⟨g, 0, none⟩ : Addr).add j) = some u := hown.cells (g := g) rfl
      have hr2 := Lib.run_append_grow_string (P := P) (w := w) t u ty e i (.int .u8 0) ht hu hi hz ⟨g, 0, none⟩ n cap xs (by rw [hsize]; simpa using hown.1) holds s (by omega) (by omega) (by rw [hby]; exact growslice_fits (by omega) (by omega))
      rw [hr] at hr2
      injection hr2 with ha hb2
      subst ha
      refine .inr fun k hk => ?_
      simp only [Value.ownBlock, Option.some.injEq] at hk
      omega
/-- the block b is a builder that holds the bytes l; G is its buffer's block -/
def Bd (w : World) (b : Nat) (G : Option Nat) (l : List UInt8) : Prop :=
  ∃ p v, (p = .pointer none ∨ p = .pointer (some ⟨b, 0, none⟩)) ∧ w.heap[b]? = some (.cells #[p, v] 135 (0, 0)) ∧ w.ownsRow b 5 1 v l.length (Lib.byteCells l) ∧ v.ownBlock ≠ some b ∧ v.ownBlock = G ∧ (l = [] → v = .slice none 0 0)
/-- only the blocks b and G have turned -/
structure Kp (b : Nat) (G : Option Nat) (w w' : World) : Prop where
  os : w'.os = w.os
  tape : w'.tape = w.tape
  output : w'.output = w.output
  size : w.heap.size ≤ w'.heap.size
  block : ∀ k, k < w.heap.size → k ≠ b → some k ≠ G → w'.heap[k]? = w.heap[k]?
theorem Bd.blk {w : World} {b : Nat} {G : Option Nat} {l : List UInt8} (h : Bd w b G l) : b < w.heap.size ∧ ∀ g, G = some g → b < g ∧ g < w.heap.size := by
  obtain ⟨p, v, hp, hrow, hown, hne, rfl, _⟩ := h
  refine ⟨?_, fun g hg => ?_⟩
  · rcases Nat.lt_or_ge b w.heap.size with h2 | h2
    · exact h2
    · rw [Array.getElem?_eq_none h2] at hrow; cases hrow
  · have := hown.lt g hg
    refine ⟨?_, this.2⟩
    rcases Nat.lt_or_eq_of_le this.1 with h | h
    · exact h
    · subst h; exact absurd hg hne
theorem Bd.kept {w w' : World} {b : Nat} {G : Option Nat} {l : List UInt8} (h : Bd w b G l) (h1 : w'.heap[b]? = w.heap[b]?) (h2 : ∀ g, G = some g → w'.heap[g]? = w.heap[g]?) : Bd w' b G l := by
  obtain ⟨p, v, hp, hrow, hown, hne, rfl, hnil⟩ := h
  refine ⟨p, v, hp, h1.trans hrow, ⟨hown.1, ?_⟩, hne, rfl, hnil⟩
  rcases hown.2 with hn | ⟨g, cap, cur, rfl, hb, hgg, rest⟩
  · exact .inl hn
  · exact .inr ⟨g, cap, cur, rfl, hb, (h2 g rfl).trans hgg, rest⟩
theorem Bd.gr {w w' : World} {b : Nat} {G : Option Nat} {l : List UInt8} (h : Bd w b G l) (hg : Gr w w') : Bd w' b G l :=
  h.kept (hg.block h.blk.1) fun g hG => hg.block (h.blk.2 g hG).2
theorem Bd.new (w : World) : Bd (w.alloc (.cells #[.pointer none, .slice none 0 0] 135)) w.heap.size none [] :=
  ⟨_, _, .inl rfl, heap_alloc_last w _, World.ownsRow_nil _ _ _ _, by simp [Value.ownBlock], rfl, fun _ => rfl⟩
theorem Kp.gr {w0 w w' : World} {b : Nat} {G : Option Nat} (h : Kp b G w w') (hg : Gr w0 w) (hb : w0.heap.size ≤ b) (hG : ∀ g, G = some g → w0.heap.size ≤ g) : Gr w0 w' :=
  ⟨h.os.trans (Below.os hg), h.tape.trans (Below.tape hg), h.output.trans (Below.output hg), Nat.le_trans (Below.size hg) h.size,
   fun k hk => (h.block k (Nat.lt_of_lt_of_le hk (Below.size hg)) (by omega) (fun e => by have := hG k e.symm; omega)).trans (Below.block hg k hk)⟩
theorem bd_check (b : Nat) (p v : Value) (w : World) (hp : p = .pointer none ∨ p = .pointer (some ⟨b, 0, none⟩)) (hrow : w.heap[b]? = some (.cells #[p, v] 135 (0, 0))) :
    Calls Try.prog 116 #[.pointer (some ⟨b, 0, none⟩)] w fun e w' => e = .returned (.tuple #[]) ∧ w'.heap[b]? = some (.cells #[.pointer (some ⟨b, 0, none⟩), v] 135 (0, 0)) ∧ Kp b none w w' := by
  have c0 : w.cell? ⟨b, 0, none⟩ = some p := by rw [cell_of_row _ _ 0 _ _ _ hrow]; rfl
  have f0 := frozen_of_row _ _ 0 _ _ hrow
  rcases hp with rfl | rfl
  · refine (bld_check_fresh b w c0 (by simp [World.shape?, hrow]) f0).mono ?_
    rintro e w' ⟨rfl, rfl⟩
    refine ⟨rfl, heap_setCell_same _ _ 0 _ _ _ hrow, ⟨rfl, rfl, rfl, by rw [setCell_size]; exact Nat.le_refl _, fun k hk hb _ => ((Ch.refl b w).setCell 0 _).block k hk hb⟩⟩
  · refine (bld_check_used b w c0).mono ?_
    rintro e w' ⟨rfl, rfl⟩
    exact ⟨rfl, hrow, ⟨rfl, rfl, rfl, Nat.le_refl _, fun _ _ _ _ => rfl⟩⟩
end Go.Proofs.Ytmpmfgkabjedpaa
namespace Go.Proofs.Ytmpmfgkabjedpaa
open Go.RowKit
set_option linter.unusedVariables false
set_option linter.unusedSimpArgs false
set_option maxRecDepth 100000
set_option maxHeartbeats 1000000
theorem wpList_ap {P : Program} {ops : Array Oper} {rest : List Oper} {o : Oper} {a : Act} {w : World} {Q : Exit → Act → World → Prop} (hgd : o.guard = none) (sl x : Operand) (t u : TypeId)
    (ho : o.op = .call { callee := .builtin .append, args := #[sl, x], argTypes := #[t, u] })
    (base : Nat) (e : TypeId) (i : TypeInfo) (ht : P.underlying t = some (.slice e)) (hu : P.underlying u = some .string) (hi : P.info? e = some i) (hz : i.zero = some (.int .u8 0))
    (hsize : i.size = 1) (hby : i.bytes = 1) (v : Value) (n : Nat) (xs : List Value) (hs : a.eval sl = v) (hown : w.ownsRow base e 1 v n xs) (s : ByteArray) (hx : a.eval x = .string s)
    (hb : n + s.size ≤ 140737488355328) (hbase : base ≤ w.heap.size)
    (h : ∀ v' w', w'.ownsRow base e 1 v' (n + s.size) (xs ++ Lib.strCells s) → w.grownBy w' v.ownBlock → (v'.ownBlock = v.ownBlock ∨ ∀ g, v'.ownBlock = some g → w.heap.size ≤ g) → (v = .slice none 0 0 → s.size = 0 → v' = .slice none 0 0) → wpList P ops Q rest (a.put o.dst v') w') : wpList P ops Q (o :: rest) a w := by
  obtain ⟨v', w', hr, h2, h3, h4, h5⟩ := ap_str P w base t u o.type e i ht hu hi hz hsize hby v n xs hown s hb hbase
  refine wpList_plain hgd fun K hK => ?_
  have hgo := hK _ _ (h v' w' h2 h3 h4 h5)
  unfold Oper.wp execOp
  simp only [ho, resolve, invoke, builtin, Sem.run_bind, Sem.run_pure, Result.andThen_ok, List.map_toArray, List.map_cons, List.map_nil, hs, hx, hr]
  exact hgo
theorem bd_put (b : Nat) (G : Option Nat) (l : List UInt8) (s : ByteArray) (w : World) (h : Bd w b G l) (hlen : l.length + s.size ≤ 140737488355328) :
    Calls Try.prog 88 #[.pointer (some ⟨b, 0, none⟩), .string s] w fun e w' => ∃ G', e = .returned (.tuple #[.int .i64 s.size, .nilIface]) ∧ Bd w' b G' (l ++ s.data.toList) ∧ Kp b G w w' ∧ (G' = G ∨ ∀ g, G' = some g → w.heap.size ≤ g) := by
  obtain ⟨i0, hi, hz0, hz1, hz2⟩ := info_parts bld_infoByte
  have hblk := h.blk
  obtain ⟨p, v, hp, hrow, hown, hne, rfl, hnil⟩ := h
  have cK := Lib.hid (bd_check b p v w hp hrow)
  have HO := Lib.hid hown
  have HNE := Lib.hid hne
  have HNIL := Lib.hid hnil
  have HB := Lib.hid hblk
  clear hp hrow hown hne hnil hblk
  go_enter Try.func88, Try.ntmps88
  go_wp2_with (go_at_call 116; refine cK.out.mono ?_)
  rintro e w1 ⟨rfl, hrow1, hk1⟩
  have c0 : w1.cell? ⟨b, 0, none⟩ = some (.pointer (some ⟨b, 0, none⟩)) := by rw [cell_of_row _ _ 0 _ _ _ hrow1]; rfl
  have c1 : w1.cell? ⟨b, 1, none⟩ = some v := by rw [cell_of_row _ _ 1 _ _ _ hrow1]; rfl
  have hown1 : w1.ownsRow b 5 1 v l.length (Lib.byteCells l) := by
    refine ⟨HO.out.1, ?_⟩
    rcases HO.out.2 with hn | ⟨g, cap, cur, rfl, hb, hgg, rest⟩
    · exact .inl hn
    · refine .inr ⟨g, cap, cur, rfl, hb, ?_, rest⟩
      have hgb := HB.out.2 g rfl
      rw [hk1.block g hgb.2 (by omega) (by simp)]
      exact hgg
  have HK := Lib.hid (And.intro hown1 (And.intro hrow1 hk1))
  clear hown1 hrow1 hk1
  go_wp2_with (at_builtin; refine wpList_ap rfl _ _ 133 9 rfl b 5 i0 Try.underlying133 Try.underlying9 hi hz0 hz1 hz2 _ _ _ rfl HK.out.1 s rfl ?c4 ?c5 ?_)
  case c4 => omega
  case c5 => have := HK.out.2.2.size; have := HB.out.1; omega
  intro v' w2 hown' hgrow hown2 hnil2
  have hlt : b < w1.heap.size := by have := HK.out.2.2.size; have := HB.out.1; omega
  have hb2 : w2.heap[b]? = some (.cells #[.pointer (some ⟨b, 0, none⟩), v] 135 (0, 0)) := by
    rw [hgrow.block b hlt (fun e => HNE.out e.symm)]
    exact HK.out.2.1
  have d0 : w2.cell? ⟨b, 0, none⟩ = some (.pointer (some ⟨b, 0, none⟩)) := by rw [cell_of_row _ _ 0 _ _ _ hb2]; rfl
  have d1 : w2.cell? ⟨b, 1, none⟩ = some v := by rw [cell_of_row _ _ 1 _ _ _ hb2]; rfl
  have f1 : w2.frozen? ⟨b, 1, none⟩ = false := frozen_of_row _ _ 1 _ _ hb2
  obtain ⟨ao, n', cap, rfl⟩ : ∃ ao n' cap, v' = .slice ao n' cap := by
    rcases hown'.2 with ⟨hv, _⟩ | ⟨g, cap, cur, hv, _⟩
    · exact ⟨_, _, _, hv⟩
    · exact ⟨_, _, _, hv⟩
  have HW2 := Lib.hid (And.intro hown' (And.intro hgrow (And.intro hown2 (And.intro hnil2 hb2))))
  clear hown' hgrow hown2 hnil2 hb2
  go_wp2
  go_ret2
  have hne2 : (Value.slice ao n' cap).ownBlock ≠ some b := by
    rcases HW2.out.2.2.1 with he | he
    · rw [he]; exact HNE.out
    · intro hx; have := he b hx; omega
  have hs1 := HK.out.2.2.size
  refine ⟨_, rfl, ⟨.pointer (some ⟨b, 0, none⟩), .slice ao n' cap, .inr rfl, heap_setCell_same _ _ 1 _ _ _ HW2.out.2.2.2.2, ?_, hne2, rfl, ?_⟩, ?_, ?_⟩
  · rw [List.length_append, Lib.byteCells_append]
    have hl2 : s.data.toList.length = s.size := by simp
    rw [hl2, ← Lib.strCells_eq]
    refine ⟨by simpa using HW2.out.1.1, ?_⟩
    rcases HW2.out.1.2 with hn | ⟨g, cap2, cur, hv, hbg, hgg, rest⟩
    · exact .inl hn
    · refine .inr ⟨g, cap2, cur, hv, hbg, ?_, rest⟩
      have hgb : g ≠ b := fun e => hne2 (by rw [hv, e]; rfl)
      have hgl : g < w2.heap.size := by
        rcases Nat.lt_or_ge g w2.heap.size with h2 | h2
        · exact h2
        · rw [Array.getElem?_eq_none h2] at hgg; cases hgg
      rw [((Ch.refl b w2).setCell 1 _).block g hgl hgb]
      exact hgg
  · intro he
    have h1 := List.append_eq_nil_iff.1 he
    have hz : s.size = 0 := by
      have := congrArg List.length h1.2
      simpa using this
    have hse : s = ByteArray.empty := by apply ByteArray.ext; apply Array.eq_empty_of_size_eq_zero; exact hz
    exact HW2.out.2.2.2.1 (HNIL.out h1.1) hse
  · refine ⟨HW2.out.2.1.os.trans HK.out.2.2.os, HW2.out.2.1.tape.trans HK.out.2.2.tape, HW2.out.2.1.output.trans HK.out.2.2.output, ?_, ?_⟩
    · rw [setCell_size]; exact Nat.le_trans HK.out.2.2.size HW2.out.2.1.size
    · intro k hk hkb hkG
      rw [((Ch.refl b w2).setCell 1 _).block k (by have := HW2.out.2.1.size; omega) hkb, HW2.out.2.1.block k (by omega) hkG]
      exact HK.out.2.2.block k hk hkb (by simp)
  · rcases HW2.out.2.2.1 with he | he
    · exact .inl he
    · exact .inr fun g hg => by have := he g hg; omega
theorem bd_len (b : Nat) (G : Option Nat) (l : List UInt8) (w : World) (h : Bd w b G l) :
    Calls Try.prog 90 #[.pointer (some ⟨b, 0, none⟩)] w fun e w' => e = .returned (.int .i64 (l.length : Nat)) ∧ w' = w := by
  obtain ⟨p, v, hp, hrow, hown, hne, rfl, hnil⟩ := h
  have hb : Lib.IsBuilder 135 5 b b (Lib.byteCells l) w := by
    have hr : w.ownsRow b 5 1 v (Lib.byteCells l).length (Lib.byteCells l) := by rw [Lib.byteCells_length]; exact hown
    rcases hp with rfl | rfl
    · exact .inl ⟨Nat.le_refl _, v, hrow, hr, hne⟩
    · exact .inr ⟨Nat.le_refl _, v, hrow, hr, hne⟩
  refine (Try.Builder_Len b b _ w hb).mono ?_
  rintro e w' ⟨rfl, rfl⟩
  exact ⟨by rw [Lib.byteCells_length], rfl⟩
end Go.Proofs.Ytmpmfgkabjedpaa
