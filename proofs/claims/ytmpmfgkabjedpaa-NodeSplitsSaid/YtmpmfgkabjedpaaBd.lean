/- strings.Builder as a list of bytes, with the frame: all blocks but its own and its buffer's stay. Two may be written in turn. -/
import Derived.Test.YtmpmfgkabjedpaaBuilder2
import Derived.Test.YtmpmfgkabjedpaaOctRd
import Derived.Test.YtmpmfgkabjedpaaOwn
namespace Go.Proofs.Ytmpmfgkabjedpaa
open Go.RowKit
set_option linter.unusedVariables false
set_option linter.unusedSimpArgs false
set_option maxRecDepth 100000
set_option maxHeartbeats 1000000
theorem ap_str (P : Program) (w : World) (base : Nat) (t u ty e : TypeId) (i : TypeInfo) (ht : P.underlying t = some (.slice e)) (hu : P.underlying u = some .string) (hi : P.info? e = some i) (hz : i.zero = some (.int .u8 0))
    (hsize : i.size = 1) (hby : i.bytes = 1) (v : Value) (n : Nat) (xs : List Value) (hown : w.ownsRow base e 1 v n xs) (s : ByteArray) (hb : n + s.size ≤ 140737488355328) (hbase : base ≤ w.heap.size) :
    ∃ v' w', (Builtin.append_ #[t, u] ty #[v, .string s]).run P w = .ok v' w' ∧ w'.ownsRow base e 1 v' (n + s.size) (xs ++ Lib.strCells s) ∧ w.grownBy w' v.ownBlock ∧
      (v'.ownBlock = v.ownBlock ∨ ∀ g, v'.ownBlock = some g → w.heap.size ≤ g) ∧ (v = .slice none 0 0 → s.size = 0 → v' = .slice none 0 0) := by
  obtain ⟨v', w', hr, h1, h2, hnil⟩ := Lib.run_append_own_string (P := P) w base t u ty e i ht hu hi hz hsize hby v n xs hown s (by unfold maxLen; omega) hb hbase
  refine ⟨v', w', hr, h1, h2, ?_, fun a b => hnil.2 ⟨a, b⟩⟩
  rcases hown.2 with ⟨rfl, rfl⟩ | ⟨g, cap, cur, rfl, hbg, hg, hnc, hcm, hcs, htake⟩
  · have hx : xs = [] := List.eq_nil_of_length_eq_zero (by simpa using hown.1)
    subst hx
    obtain ⟨v2, w2, hr2, h12, _, _⟩ := Lib.run_append_own_string (P := P) w w.heap.size t u ty e i ht hu hi hz hsize hby (.slice none 0 0) 0 [] (World.ownsRow_nil _ _ _ _) s (by unfold maxLen; omega) hb (Nat.le_refl _)
    rw [hr] at hr2
    injection hr2 with ha hb2
    subst ha hb2
    exact .inr fun g hg => (h12.lt g hg).1
  · by_cases hroom : n + s.size ≤ cap
    · have hcs2 : cur.size = cap := by simpa using hcs
      have hr2 := Lib.run_append_room_string (P := P) (w := w) t u ty e i ht hu hi hsize g n cap cur hg s hroom (by omega)
      rw [hr] at hr2
      injection hr2 with ha hb2
      subst ha
      exact .inl rfl
    · have holds : ∀ j u, xs[j]? = some u → w.cell? ((⟨g, 0, none⟩ : Addr).add j) = some u := hown.cells (g := g) rfl
      have hr2 := Lib.run_append_grow_string (P := P) (w := w) t u ty e i (.int .u8 0) ht hu hi hz ⟨g, 0, none⟩ n cap xs (by rw [hsize]; simpa using hown.1) holds s (by omega) (by omega) (by rw [hby]; exact growslice_fits (by omega) (by omega))
      rw [hr] at hr2
      injection hr2 with ha hb2
      subst ha
      refine .inr fun k hk => ?_
      simp only [Value.ownBlock, Option.some.injEq] at hk
      omega
/-- the block b is a builder that holds the bytes l; G is its buffer's block -/
def Bd (w : World) (b : Nat) (G : Option Nat) (l : List UInt8) : Prop :=
  ∃ p v, (p = .pointer none ∨ p = .pointer (some ⟨b, 0, none⟩)) ∧ w.heap[b]? = some (.cells #[p, v] 135 (0, 0)) ∧ w.ownsRow b 5 1 v l.length (Lib.byteCells l) ∧ v.ownBlock ≠ some b ∧ v.ownBlock = G ∧ (l = [] → v = .slice none 0 0)
/-- only the blocks b and G have turned -/
structure Kp (b : Nat) (G : Option Nat) (w w' : World) : Prop where
  os : w'.os = w.os
  tape : w'.tape = w.tape
  output : w'.output = w.output
  size : w.heap.size ≤ w'.heap.size
  block : ∀ k, k < w.heap.size → k ≠ b → some k ≠ G → w'.heap[k]? = w.heap[k]?
theorem Bd.blk {w : World} {b : Nat} {G : Option Nat} {l : List UInt8} (h : Bd w b G l) : b < w.heap.size ∧ ∀ g, G = some g → b < g ∧ g < w.heap.size := by
  obtain ⟨p, v, hp, hrow, hown, hne, rfl, _⟩ := h
  refine ⟨?_, fun g hg => ?_⟩
  · rcases Nat.lt_or_ge b w.heap.size with h2 | h2
    · exact h2
    · rw [Array.getElem?_eq_none h2] at hrow; cases hrow
  · have := hown.lt g hg
    refine ⟨?_, this.2⟩
    rcases Nat.lt_or_eq_of_le this.1 with h | h
    · exact h
    · subst h; exact absurd hg hne
theorem Bd.kept {w w' : World} {b : Nat} {G : Option Nat} {l : List UInt8} (h : Bd w b G l) (h1 : w'.heap[b]? = w.heap[b]?) (h2 : ∀ g, G = some g → w'.heap[g]? = w.heap[g]?) : Bd w' b G l := by
  obtain ⟨p, v, hp, hrow, hown, hne, rfl, hnil⟩ := h
  refine ⟨p, v, hp, h1.trans hrow, ⟨hown.1, ?_⟩, hne, rfl, hnil⟩
  rcases hown.2 with hn | ⟨g, cap, cur, rfl, hb, hgg, rest⟩
  · exact .inl hn
  · exact .inr ⟨g, cap, cur, rfl, hb, (h2 g rfl).trans hgg, rest⟩
theorem Bd.gr {w w' : World} {b : Nat} {G : Option Nat} {l : List UInt8} (h : Bd w b G l) (hg : Gr w w') : Bd w' b G l :=
  h.kept (hg.block h.blk.1) fun g hG => hg.block (h.blk.2 g hG).2
theorem Bd.new (w : World) : Bd (w.alloc (.cells #[.pointer none, .slice none 0 0] 135)) w.heap.size none [] :=
  ⟨_, _, .inl rfl, heap_alloc_last w _, World.ownsRow_nil _ _ _ _, by simp [Value.ownBlock], rfl, fun _ => rfl⟩
theorem Kp.gr {w0 w w' : World} {b : Nat} {G : Option Nat} (h : Kp b G w w') (hg : Gr w0 w) (hb : w0.heap.size ≤ b) (hG : ∀ g, G = some g → w0.heap.size ≤ g) : Gr w0 w' :=
  ⟨h.os.trans (Below.os hg), h.tape.trans (Below.tape hg), h.output.trans (Below.output hg), Nat.le_trans (Below.size hg) h.size,
   fun k hk => (h.block k (Nat.lt_of_lt_of_le hk (Below.size hg)) (by omega) (fun e => by have := hG k e.symm; omega)).trans (Below.block hg k hk)⟩
theorem bd_check (b : Nat) (p v : Value) (w : World) (hp : p = .pointer none ∨ p = .pointer (some ⟨b, 0, none⟩)) (hrow : w.heap[b]? = some (.cells #[p, v] 135 (0, 0))) :
    Calls Try.prog 116 #[.pointer (some ⟨b, 0, none⟩)] w fun e w' => e = .returned (.tuple #[]) ∧ w'.heap[b]? = some (.cells #[.pointer (some ⟨b, 0, none⟩), v] 135 (0, 0)) ∧ Kp b none w w' := by
  have c0 : w.cell? ⟨b, 0, none⟩ = some p := by rw [cell_of_row _ _ 0 _ _ _ hrow]; rfl
  have f0 := frozen_of_row _ _ 0 _ _ hrow
  rcases hp with rfl | rfl
  · refine (bld_check_fresh b w c0 (by simp [World.shape?, hrow]) f0).mono ?_
    rintro e w' ⟨rfl, rfl⟩
    refine ⟨rfl, heap_setCell_same _ _ 0 _ _ _ hrow, ⟨rfl, rfl, rfl, by rw [setCell_size]; exact Nat.le_refl _, fun k hk hb _ => ((Ch.refl b w).setCell 0 _).block k hk hb⟩⟩
  · refine (bld_check_used b w c0).mono ?_
    rintro e w' ⟨rfl, rfl⟩
    exact ⟨rfl, hrow, ⟨rfl, rfl, rfl, Nat.le_refl _, fun _ _ _ _ => rfl⟩⟩
end Go.Proofs.Ytmpmfgkabjedpaa
