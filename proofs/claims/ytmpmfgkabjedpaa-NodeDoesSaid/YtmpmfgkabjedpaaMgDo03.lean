/- A slice that came in, opened as a list of what its elements are. -/
import Derived.Test.YtmpmfgkabjedpaaMgDo01
import Derived.Test.YtmpmfgkabjedpaaMgDo02
import Derived.ProofKit
import Derived.OpenShut
import Derived.Deep.Slices
import Derived.Deep.AppendLies
import Derived.Laws.AppendOwn
import Derived.Laws.ResultCell
import Derived.Laws.EntriesVeiled
import Derived.Deep.RegionHeld3
namespace Go.Proofs.Ytmpmfgkabjedpaa
open Go.RowKit
set_option linter.unusedVariables false
set_option linter.unusedSimpArgs false
/-- the slice with the address A holds the things xs, n cells each, as 'enc' has them -/
def SliceAt {α : Type} (w : World) (A : Option Addr) (n : Nat) (enc : α → List Value) (xs : List α) : Prop :=
  xs = [] ∨ ∃ b off, A = some ⟨b, off, none⟩ ∧ ∀ i x, xs[i]? = some x → ∀ j u, (enc x)[j]? = some u → w.cell? ⟨b, off + i * n + j, none⟩ = some u
theorem SliceAt.gr {α : Type} {w w' : World} {A : Option Addr} {n : Nat} {enc : α → List Value} {xs : List α} (h : SliceAt w A n enc xs) (hg : Gr w w') : SliceAt w' A n enc xs := by
  rcases h with h | ⟨b, off, hA, hc⟩
  · exact .inl h
  · exact .inr ⟨b, off, hA, fun i x hx j u hu => hg.cells (hc i x hx j u hu)⟩
section
variable {H : Type} {enc : TypeId × Value → H} {P : Program} {w : World} {base : Nat} {held : Bool}
theorem spot_none {w : World} {a : Addr} {v : Value} (h : w.cell? a = some v) : a.spot = none := by
  unfold World.cell? at h
  split at h
  · split at h
    · cases h
    · rename_i hs; cases hsp : a.spot <;> simp_all
  · cases h
theorem open_slice_as {α : Type} {r : Reach} {b0 : Nat} {t e n : Nat} {v : Value} {d : DataW H} {p : List MemPlace} (cells : α → List Value) (Good : α → Prop) (ht : P.underlying t = some (.slice e)) (hn : P.cellsOf e = n) (hn0 : 0 < n)
    (hv : Value.okWide P w r b0 t v) (h : DataW.Trod enc P w base (fun _ => true) held t v d p)
    (hE : ∀ fuel cs y, DataW.trod enc P w base (fun _ => true) held fuel e cs = some y → ∃ x, cs = cells x ∧ Good x) :
    ∃ (A : Option Addr) (cap : Nat) (xs : List α), v = .slice A xs.length cap ∧ xs.length ≤ cap ∧ cap ≤ maxLen ∧ (∀ x ∈ xs, Good x) ∧ SliceAt w A n cells xs := by
  obtain ⟨A, len, cap, rfl⟩ := WideShapes.okWide_slice ht hv
  obtain ⟨fuel, hf⟩ := h
  rcases Deep.open_slice ht hf with ⟨h1, _⟩ | ⟨a, len', cap', m, k, D, Pl, h1, hb, hl, hm, hmm, _, hx⟩
  · simp [Value.cells] at h1
    obtain ⟨rfl, rfl, rfl⟩ := h1
    exact ⟨none, 0, [], rfl, Nat.le_refl _, Nat.zero_le _, fun x hx => absurd hx (by simp), .inl rfl⟩
  · simp [Value.cells] at h1
    obtain ⟨rfl, rfl, rfl⟩ := h1
    have hm' : m = cap := by simpa using hmm
    have hall : ∀ i, i < len → ∃ x : α, Good x ∧ ∃ cs', cs' = cells x ∧ w.cells? base (a.add (i * n)) n = some cs' := by
      intro i hi
      obtain ⟨cs', g1, g2⟩ := hx i (by omega)
      obtain ⟨x, rfl, hg⟩ := hE _ _ _ g2
      rw [hn] at g1
      exact ⟨x, hg, _, rfl, g1⟩
    have hlist : ∀ k, k ≤ len → ∃ xs : List α, xs.length = k ∧ (∀ x ∈ xs, Good x) ∧ ∀ i x, xs[i]? = some x → w.cells? base (a.add (i * n)) n = some (cells x) := by
      intro k
      induction k with
      | zero => intro _; exact ⟨[], rfl, fun x hx => absurd hx (by simp), fun i x hx => by simp at hx⟩
      | succ k ih =>
        intro hk
        obtain ⟨xs, h1, h2, h3⟩ := ih (by omega)
        obtain ⟨x, hg, cs', rfl, hc⟩ := hall k (by omega)
        refine ⟨xs ++ [x], by simp [h1], fun y hy => ?_, fun i y hy => ?_⟩
        · rcases List.mem_append.1 hy with hy | hy
          · exact h2 y hy
          · simp at hy; subst hy; exact hg
        · by_cases hi : i < xs.length
          · rw [List.getElem?_append_left hi] at hy; exact h3 i y hy
          · rw [List.getElem?_append_right (by omega)] at hy
            have : i = k := by
              rcases Nat.lt_or_ge (i - xs.length) 1 with hlt | hge
              · omega
              · rw [List.getElem?_eq_none (by simpa using hge)] at hy; cases hy
            subst this
            simp [h1] at hy
            subst hy
            exact hc
    obtain ⟨xs, h1, h2, h3⟩ := hlist len (Nat.le_refl _)
    subst h1
    refine ⟨some a, cap, xs, rfl, hl, hm, h2, ?_⟩
    by_cases hz : xs = []
    · exact .inl hz
    · right
      have hpos : 0 < xs.length := List.length_pos_iff.2 hz
      have key : ∀ i x, xs[i]? = some x → ∀ j u, (cells x)[j]? = some u → w.cell? ((a.add (i * n)).add j) = some u := by
        intro i x hx j u hu
        obtain ⟨_, hlen, hcell⟩ := World.cells?_some (h3 i x hx)
        have hj : j < n := by
          rcases Nat.lt_or_ge j (cells x).length with hlt | hge
          · omega
          · rw [List.getElem?_eq_none hge] at hu; cases hu
        rw [← hu]
        exact hcell j hj
      have h0 : a.spot = none := by
        obtain ⟨_, hlen, hcell⟩ := World.cells?_some (h3 0 xs[0] (List.getElem?_eq_getElem hpos))
        have hl0 : 0 < (cells xs[0]).length := by omega
        have hk := key 0 xs[0] (List.getElem?_eq_getElem hpos) 0 _ (List.getElem?_eq_getElem hl0)
        simpa [Addr.add] using spot_none hk
      obtain ⟨b, off, spot⟩ := a
      simp only at h0
      subst h0
      refine ⟨b, off, rfl, fun i x hx j u hu => ?_⟩
      have := key i x hx j u hu
      rwa [Addr.add_mid, Addr.add_mid] at this
end
end Go.Proofs.Ytmpmfgkabjedpaa
namespace Go.Proofs.Ytmpmfgkabjedpaa
open Go.RowKit
set_option linter.unusedVariables false
set_option linter.unusedSimpArgs false
/-- the call's own slice v holds the things xs, k cells each -/
def Own {α : Type} (w : World) (base e k : Nat) (enc : α → List Value) (A : Option Addr) (cap : Nat) (xs : List α) : Prop :=
  w.ownsRow base e k (.slice A xs.length cap) xs.length (xs.flatMap enc)
def ownOf (A : Option Addr) : Option Nat := A.map (·.block)
theorem ownOf_eq (A : Option Addr) (n c : Nat) : (Value.slice A n c).ownBlock = ownOf A := by cases A <;> rfl
section
variable {α : Type} {w w' : World} {base e k : Nat} {enc : α → List Value} {A : Option Addr} {cap : Nat} {xs : List α}
theorem Own.nil (w : World) (base e k : Nat) (enc : α → List Value) : Own w base e k enc none 0 ([] : List α) := ⟨by simp, .inl ⟨rfl, rfl⟩⟩
theorem Own.of_block (h : Own w base e k enc A cap xs) (hb : ∀ g, ownOf A = some g → w'.heap[g]? = w.heap[g]?) : Own w' base e k enc A cap xs := by
  obtain ⟨h1, h2⟩ := h
  refine ⟨h1, ?_⟩
  rcases h2 with h2 | ⟨g, c, cur, hv, hg, hh, hx⟩
  · exact .inl h2
  · simp only [Value.slice.injEq] at hv
    obtain ⟨rfl, _, rfl⟩ := hv
    exact .inr ⟨g, _, cur, rfl, hg, (hb g rfl).trans hh, hx⟩
theorem Own.lt (h : Own w base e k enc A cap xs) {g : Nat} (hg : ownOf A = some g) : g < w.heap.size ∧ base ≤ g := by
  rcases h.2 with h2 | ⟨g', c, cur, hv, hb, hh, hx⟩
  · simp only [Value.slice.injEq] at h2
    obtain ⟨⟨rfl, _⟩, _⟩ := h2
    cases hg
  · simp only [Value.slice.injEq] at hv
    obtain ⟨rfl, _, rfl⟩ := hv
    cases hg
    refine ⟨?_, hb⟩
    rcases Nat.lt_or_ge g' w.heap.size with hlt | hge
    · exact hlt
    · rw [Array.getElem?_eq_none hge] at hh; cases hh
theorem Own.gr (h : Own w base e k enc A cap xs) (hg : Gr w w') : Own w' base e k enc A cap xs :=
  h.of_block fun g he => hg.block (h.lt he).1
theorem Own.ch {b : Nat} (h : Own w base e k enc A cap xs) (hg : Ch b w w') (hne : ownOf A ≠ some b) : Own w' base e k enc A cap xs :=
  h.of_block fun g he => hg.block g (h.lt he).1 (fun hb => hne (by rw [he, hb]))
theorem Own.cap_le (h : Own w base e k enc A cap xs) : xs.length ≤ cap ∧ cap ≤ maxLen := by
  rcases h.2 with h2 | ⟨g', c, cur, hv, hb, hh, hn, hc, hx⟩
  · simp only [Value.slice.injEq] at h2
    obtain ⟨⟨_, _, rfl⟩, h0⟩ := h2
    exact ⟨by omega, by decide⟩
  · simp only [Value.slice.injEq] at hv
    obtain ⟨_, _, rfl⟩ := hv
    exact ⟨hn, hc⟩
theorem flatMap_get {enc : α → List Value} (k : Nat) (hk : ∀ x, (enc x).length = k) (xs : List α) (i : Nat) (x : α) (hx : xs[i]? = some x) (j : Nat) (u : Value) (hu : (enc x)[j]? = some u) : (xs.flatMap enc)[i * k + j]? = some u := by
  induction xs generalizing i with
  | nil => simp at hx
  | cons y ys ih =>
    rw [List.flatMap_cons]
    cases i with
    | zero =>
      simp only [List.getElem?_cons_zero, Option.some.injEq] at hx
      subst hx
      have hj : j < (enc y).length := by
        rcases Nat.lt_or_ge j (enc y).length with h | h
        · exact h
        · rw [List.getElem?_eq_none h] at hu; cases hu
      rw [Nat.zero_mul, Nat.zero_add, List.getElem?_append_left hj]; exact hu
    | succ i =>
      simp only [List.getElem?_cons_succ] at hx
      rw [Nat.succ_mul, List.getElem?_append_right (by rw [hk]; omega), hk]
      rw [show i * k + k + j - k = i * k + j by omega]
      exact ih i hx
theorem Own.slice (h : Own w base e k enc A cap xs) (hk : ∀ x, (enc x).length = k) : SliceAt w A k enc xs := by
  obtain ⟨h1, h2⟩ := h
  rcases h2 with ⟨h2, h0⟩ | ⟨g', c, cur, hv, hb, hh, hn, hc, hsz, hx⟩
  · exact .inl (List.eq_nil_of_length_eq_zero h0)
  · simp only [Value.slice.injEq] at hv
    obtain ⟨rfl, _, rfl⟩ := hv
    refine .inr ⟨g', 0, rfl, fun i x hxi j u hu => ?_⟩
    have hc := flatMap_get k hk xs i x hxi j u hu
    rw [← hx] at hc
    rw [List.getElem?_take] at hc
    split at hc
    · rw [Nat.zero_add, cell_of_row _ _ _ _ _ _ hh]
      simpa using hc
    · cases hc
theorem Own.push {g c : Nat} (x : α) (h : w'.ownsRow base e k (.slice (some ⟨g, 0, none⟩) (xs.length + 1) c) (xs.length + 1) (xs.flatMap enc ++ enc x)) : Own w' base e k enc (some ⟨g, 0, none⟩) c (xs ++ [x]) := by
  unfold Own
  rw [List.length_append, List.length_singleton, List.flatMap_append]
  simpa using h
end
theorem Ch.setFar {b g : Nat} {w w' : World} (h : Ch b w w') (hg : w.heap.size ≤ g) (i : Nat) (u : Value) : Ch b w (w'.setCell ⟨g, i, none⟩ u) :=
  ⟨h.os, h.tape, h.output, by have := h.size; simpa [World.setCell] using this, fun k hk hb => (Below.heap_setCell _ _ _ _ (by show k ≠ g; omega)).trans (h.block k hk hb)⟩
theorem setCell_size (w : World) (p : Addr) (u : Value) : (w.setCell p u).heap.size = w.heap.size := by simp [World.setCell]
theorem alloc_size (w : World) (o : Obj) : (w.alloc o).heap.size = w.heap.size + 1 := by show (w.heap.push _).size = _; simp
theorem heap_alloc3 (w : World) (a b c : Obj) : (((w.alloc a).alloc b).alloc c).heap[w.heap.size]? = some a ∧ (((w.alloc a).alloc b).alloc c).heap[w.heap.size + 1]? = some b ∧ (((w.alloc a).alloc b).alloc c).heap[w.heap.size + 2]? = some c := by
  refine ⟨?_, ?_, ?_⟩
  · rw [((Gr.refl _).alloc c |>.block (k := w.heap.size) (by rw [alloc_size, alloc_size]; omega)), ((Gr.refl _).alloc b |>.block (k := w.heap.size) (by rw [alloc_size]; omega)), heap_alloc_last]
  · have h := heap_alloc_last (w.alloc a) b
    rw [alloc_size] at h
    rw [((Gr.refl _).alloc c |>.block (k := w.heap.size + 1) (by rw [alloc_size, alloc_size]; omega)), h]
  · have h := heap_alloc_last ((w.alloc a).alloc b) c
    rw [alloc_size, alloc_size] at h
    exact h
theorem results_cell_tmp_row {P : Program} {fn : Func} {p u : Tmp} {ty : TypeId} (h : fn.results = #[.cell p ty, .tmp u]) (tmps : Array Value) (w : World) (g : Nat) (t : TypeId) (cs : Array Value) (fr : Nat × Nat) (d : TypeDesc)
    (hp : tmps.getD p undef = .pointer (some ⟨g, 0, none⟩)) (hg : w.heap[g]? = some (.cells cs t fr))
    (hu : P.underlying ty = some d) (hd : (match d with | .struct _ | .array _ _ => true | _ => false) = true) (hi : (P.info? ty).map (·.size) = some cs.size) :
    (results fn tmps).run P w = .ok (.tuple #[.agg cs, tmps.getD u undef]) w := by
  rw [results_cell_tmp h, hp]
  simp [asAddr, Result.andThen, run_loadVar_row w g t ty cs fr d hg hu hd hi]
/-- a block of two cells -/
structure At2 (w : World) (b : Nat) (u v : Value) : Prop where
  s : w.cell? ⟨b, 0, none⟩ = some u
  e : w.cell? ⟨b, 1, none⟩ = some v
  sf : w.frozen? ⟨b, 0, none⟩ = false
  ef : w.frozen? ⟨b, 1, none⟩ = false
theorem At2.of_row {w : World} {g : Nat} {u v : Value} {t : TypeId} (h : w.heap[g]? = some (.cells #[u, v] t (0, 0))) : At2 w g u v :=
  ⟨by rw [cell_of_row _ _ 0 _ _ _ h]; rfl, by rw [cell_of_row _ _ 1 _ _ _ h]; rfl, frozen_of_row _ _ 0 _ _ h, frozen_of_row _ _ 1 _ _ h⟩
theorem At2.lt {w : World} {b : Nat} {u v : Value} (h : At2 w b u v) : b < w.heap.size := block_lt_of_cell h.s
theorem At2.gr {w w' : World} {b : Nat} {u v : Value} (h : At2 w b u v) (hg : Gr w w') : At2 w' b u v :=
  ⟨hg.cells h.s, hg.cells h.e, (hg.frozen h.lt).trans h.sf, (hg.frozen h.lt).trans h.ef⟩
theorem At2.ch {w w' : World} {b c : Nat} {u v : Value} (h : At2 w b u v) (hg : Ch c w w') (hne : b ≠ c) : At2 w' b u v :=
  ⟨hg.cell hne h.s, hg.cell hne h.e, (hg.frozen hne h.lt).trans h.sf, (hg.frozen hne h.lt).trans h.ef⟩
theorem At2.new (w : World) (t : TypeId) (u v : Value) : At2 (w.alloc (.cells #[u, v] t)) w.heap.size u v := by
  have h := heap_alloc_last w (.cells #[u, v] t)
  exact ⟨by rw [cell_of_row _ _ 0 _ _ _ h]; rfl, by rw [cell_of_row _ _ 1 _ _ _ h]; rfl, frozen_of_row _ _ 0 _ _ h, frozen_of_row _ _ 1 _ _ h⟩
end Go.Proofs.Ytmpmfgkabjedpaa
namespace Go.Proofs.Ytmpmfgkabjedpaa
open Go.RowKit
set_option linter.unusedVariables false
set_option linter.unusedSimpArgs false
set_option maxRecDepth 100000
set_option maxHeartbeats 2000000
def clipB (s : ByteArray) (m : Nat) : ByteArray := s.extract 0 (min s.size m)
theorem clipB_size (s : ByteArray) (m : Nat) : (clipB s m).size = min s.size m := by unfold clipB; rw [ByteArray.size_extract]; omega
theorem clipB_all (s : ByteArray) (m : Nat) (h : s.size ≤ m) : clipB s m = s := by
  unfold clipB
  rw [Nat.min_eq_left h]
  exact ByteArray.extract_zero_size
def keyBytes (k : ByteArray) : ByteArray := B (Oct.be (clipB k 255).size 1) ++ clipB k 255
theorem keyBytes_size (k : ByteArray) : (keyBytes k).size = 1 + min k.size 255 := by unfold keyBytes; rw [ByteArray.size_append, B_be_size, clipB_size]
abbrev Ce := ByteArray × ByteArray × Nat × Nat
def ceCell (x : Ce) : List Value := [.string x.1, .string x.2.1, .int .u32 (x.2.2.1 : Nat), .int .u32 (x.2.2.2 : Nat)]
def ceOk (x : Ce) : Prop := x.1.size ≤ 60000 ∧ x.2.1.size ≤ 60000 ∧ x.2.2.1 < 4294967296 ∧ x.2.2.2 < 4294967296
def ceBytes (x : Ce) : ByteArray :=
  if x.2.2.1 ≠ 0 then keyBytes x.1 ++ B (Oct.be 1 1) ++ B (Oct.be x.2.2.1 4) ++ B (Oct.be x.2.2.2 4)
  else keyBytes x.1 ++ B (Oct.be 0 1) ++ B (Oct.be (clipB x.2.1 65535).size 2) ++ clipB x.2.1 65535
def kiBytes (k : ByteArray) (p : Nat) : ByteArray := keyBytes k ++ B (Oct.be p 4)
theorem sl_clip (s : ByteArray) (hs : s.size ≤ 1000000) (m : Nat) (hm : m ≤ 100000) (w : World) :
    Calls Try.prog 109 #[.string s, .int .i64 (m : Nat)] w fun r w' => r = .returned (.string (clipB s m)) ∧ w = w' := by
  by_cases h : s.size ≤ m
  · have HC := Lib.hid (clipB_all s m h)
    by_cases h2 : s.size = m
    · subst h2
      go_enter Try.func109, Try.ntmps109
      go_wp2
      go_ret
      exact ⟨ret_str (by first | exact HC.out.symm | (rw [HC.out]; exact ByteArray.extract_zero_size)), rfl⟩
    · have h3 : (s.size : Int) < (m : Int) := by omega
      go_enter Try.func109, Try.ntmps109
      go_wp2
      go_ret
      exact ⟨ret_str (by first | exact HC.out.symm | (rw [HC.out]; exact ByteArray.extract_zero_size)), rfl⟩
  · have HC : Hid (clipB s m = s.extract 0 m) := by unfold Hid clipB; rw [Nat.min_eq_right (by omega)]
    have h3 : (m : Int) < (s.size : Int) := by omega
    have h4 : (m : Int) ≤ (s.size : Int) := by omega
    have h5 : ¬ (s.size : Int) < (m : Int) := by omega
    go_enter Try.func109, Try.ntmps109
    go_wp2
    go_ret
    exact ⟨ret_str HC.out.symm, rfl⟩
theorem sl_putKey (k : ByteArray) (hs : k.size ≤ 1000000) (w : World) :
    Calls Try.prog 74 #[.string k] w fun r w' => r = .returned (.string (keyBytes k)) ∧ Gr w w' := by
  have hz := clipB_size k 255
  have cC := fun w1 => Lib.hid (sl_clip k hs 255 (by omega) w1)
  have cO := fun w1 => Lib.hid (oct_one (clipB k 255).size (by omega) w1)
  have hw : IntKind.u8.wrap (((clipB k 255).size : Nat) : Int) = (((clipB k 255).size : Nat) : Int) := by rw [IntKind.wrap_u8']; omega
  have z1 := B_be_size (clipB k 255).size 1
  have HB : Hid (keyBytes k = B (Oct.be (clipB k 255).size 1) ++ clipB k 255) := rfl
  have e0 : ((255 : Nat) : Int) = 255 := rfl
  simp only [e0] at cC
  have hle : (clipB k 255).size ≤ 255 := by omega
  clear hz
  generalize clipB k 255 = c at *
  generalize keyBytes k = q at *
  generalize B (Oct.be c.size 1) = g1 at *
  have hno : ¬ (9223372036854775807 < 1 + c.size) := by omega
  go_enter Try.func74, Try.ntmps74
  go_wp2_with (first
    | (go_at_call 109; refine (cC _).out.mono ?_; rintro r v1 ⟨rfl, rfl⟩)
    | (go_at_call 108; refine (cO _).out.mono ?_; rintro r v2 ⟨rfl, hg⟩))
  go_ret
  exact ⟨ret_str HB.out.symm, hg⟩
end Go.Proofs.Ytmpmfgkabjedpaa
namespace Go.Proofs.Ytmpmfgkabjedpaa
open Go.RowKit
set_option linter.unusedVariables false
set_option linter.unusedSimpArgs false
set_option maxRecDepth 100000
set_option maxHeartbeats 4000000
theorem row_cell {w : World} {g : Nat} {t : TypeId} {cs : Array Value} (h : w.heap[g]? = some (.cells cs t (0, 0))) (i : Nat) (v : Value) (hv : cs[i]? = some v) : w.cell? ⟨g, i, none⟩ = some v := by
  rw [cell_of_row _ _ i _ _ _ h]; exact hv
theorem lt_of_row {w : World} {k : Nat} {o : Obj} (h : w.heap[k]? = some o) : k < w.heap.size := by
  rcases Nat.lt_or_ge k w.heap.size with h2 | h2
  · exact h2
  · rw [Array.getElem?_eq_none h2] at h; cases h
theorem sl_putCell (k v : ByteArray) (c l : Nat) (hk : k.size ≤ 60000) (hv : v.size ≤ 60000) (hc : c < 4294967296) (hl : l < 4294967296) (w : World) :
    Calls Try.prog 68 #[.agg #[.string k, .string v, .int .u32 (c : Nat), .int .u32 (l : Nat)]] w fun r w' => r = .returned (.string (ceBytes (k, v, c, l))) ∧ Gr w w' := by
  have cK := fun w1 => Lib.hid (sl_putKey k (by omega) w1)
  have zk := keyBytes_size k
  have hw0 := heap_alloc_last w (.cells #[.string k, .string v, .int .u32 (c : Nat), .int .u32 (l : Nat)] 59)
  have HW : Hid (Gr w (w.alloc (.cells #[.string k, .string v, .int .u32 (c : Nat), .int .u32 (l : Nat)] 59))) := (Gr.refl w).alloc _
  by_cases h0 : c = 0
  · subst h0
    have HB : Hid (ceBytes (k, v, 0, l) = keyBytes k ++ B (Oct.be 0 1) ++ B (Oct.be (clipB v 65535).size 2) ++ clipB v 65535) := by unfold Hid ceBytes; rw [if_neg (by simp)]
    have hz := clipB_size v 65535
    have cC := fun w1 => Lib.hid (sl_clip v (by omega) 65535 (by omega) w1)
    have cO := fun w1 => Lib.hid (oct_one 0 (by omega) w1)
    have cT := fun w1 => Lib.hid (oct_two (clipB v 65535).size (by omega) w1)
    have z1 := B_be_size 0 1
    have z2 := B_be_size (clipB v 65535).size 2
    have hle : (clipB v 65535).size ≤ 60000 := by omega
    have hw : IntKind.u16.wrap (((clipB v 65535).size : Nat) : Int) = (((clipB v 65535).size : Nat) : Int) := by rw [IntKind.wrap_u16]; omega
    have e0 : ((65535 : Nat) : Int) = 65535 := rfl
    have e1 : ((0 : Nat) : Int) = 0 := rfl
    simp only [e0] at cC
    simp only [e1] at cO HW hw0 ⊢
    clear hz
    generalize clipB v 65535 = cv at *
    generalize keyBytes k = g1 at *
    generalize B (Oct.be 0 1) = g2 at *
    generalize B (Oct.be cv.size 2) = g3 at *
    generalize ceBytes (k, v, 0, l) = q at *
    have y1 : ¬ (9223372036854775807 < g1.size + g2.size) := by omega
    have y2 : ¬ (9223372036854775807 < g1.size + g2.size + g3.size) := by omega
    have y3 : ¬ (9223372036854775807 < g1.size + g2.size + g3.size + cv.size) := by omega
    rw [z1] at y1
    rw [z1, z2] at y2 y3
    have zk2 : g1.size ≤ 300 := by omega
    clear zk
    go_enter Try.func68, Try.ntmps68
    have x0 := row_cell hw0 0 _ rfl
    have x1 := row_cell hw0 1 _ rfl
    have x2 := row_cell hw0 2 _ rfl
    clear hw0
    go_wp2_with (first
      | (go_at_call 109; refine (cC _).out.mono ?_; rintro r v1 ⟨rfl, rfl⟩)
      | (go_at_call 74; refine (cK _).out.mono ?_; rintro r v2 ⟨rfl, hg2⟩)
      | (go_at_call 108; refine (cO _).out.mono ?_; rintro r v3 ⟨rfl, hg3⟩)
      | (go_at_call 89; refine (cT _).out.mono ?_; rintro r v4 ⟨rfl, hg4⟩))
    go_ret
    exact ⟨ret_str HB.out.symm, ((HW.out.trans hg2).trans hg3).trans hg4⟩
  · have HB : Hid (ceBytes (k, v, c, l) = keyBytes k ++ B (Oct.be 1 1) ++ B (Oct.be c 4) ++ B (Oct.be l 4)) := by unfold Hid ceBytes; rw [if_pos h0]
    have cO := fun w1 => Lib.hid (oct_one 1 (by omega) w1)
    have cF := fun w1 => Lib.hid (oct_four c hc w1)
    have cG := fun w1 => Lib.hid (oct_four l hl w1)
    have z1 := B_be_size 1 1
    have z2 := B_be_size c 4
    have z3 := B_be_size l 4
    have e1 : ((1 : Nat) : Int) = 1 := rfl
    simp only [e1] at cO
    have hne : ((c : Int) != 0) = true := by simp; omega
    generalize keyBytes k = g1 at *
    generalize B (Oct.be 1 1) = g2 at *
    generalize B (Oct.be c 4) = g3 at *
    generalize B (Oct.be l 4) = g4 at *
    generalize ceBytes (k, v, c, l) = q at *
    have y1 : ¬ (9223372036854775807 < g1.size + g2.size) := by omega
    have y2 : ¬ (9223372036854775807 < g1.size + g2.size + g3.size) := by omega
    have y3 : ¬ (9223372036854775807 < g1.size + g2.size + g3.size + g4.size) := by omega
    rw [z1] at y1
    rw [z1, z2] at y2
    rw [z1, z2, z3] at y3
    have zk2 : g1.size ≤ 300 := by omega
    clear zk
    go_enter Try.func68, Try.ntmps68
    have x0 := row_cell hw0 0 _ rfl
    have x2 := row_cell hw0 2 _ rfl
    have x3 := row_cell hw0 3 _ rfl
    clear hw0
    go_wp2
    generalize w.alloc (.cells #[.string k, .string v, .int .u32 (c : Nat), .int .u32 (l : Nat)] 59) = W at *
    generalize w.heap.size = g at *
    go_region_held3 (fun w' => w'.cell? ⟨g, 0, none⟩ = some (.string k) ∧ w'.cell? ⟨g, 2, none⟩ = some (.int .u32 (c : Nat)) ∧ w'.cell? ⟨g, 3, none⟩ = some (.int .u32 (l : Nat))) (first | exact ⟨x0, x2, x3⟩ | exact HQ.out | assumption)
      (first
        | (go_at_call 74; refine (cK _).out.mono ?_; clear cK; rintro r v1 ⟨rfl, hg⟩; have HV1 : Hid (Gr W v1) := (Gr.refl W).drew.trans hg; have HQ := Lib.hid (And.intro (HV1.out.cells x0) (And.intro (HV1.out.cells x2) (HV1.out.cells x3))); clear hg)
        | (go_at_call 108; refine (cO _).out.mono ?_; clear cO; rintro r v2 ⟨rfl, hg⟩; have HV2 : Hid (Gr W v2) := HV1.out.trans hg; have HQ := Lib.hid (And.intro (HV2.out.cells x0) (And.intro (HV2.out.cells x2) (HV2.out.cells x3))); clear hg)
        | (go_at_call 75; (with_reducible show Calls _ _ #[.int .u32 (c : Nat)] _ _); refine (cF _).out.mono ?_; clear cF; rintro r v3 ⟨rfl, hg⟩; have HV3 : Hid (Gr W v3) := HV2.out.trans hg; have HQ := Lib.hid (And.intro (HV3.out.cells x0) (And.intro (HV3.out.cells x2) (HV3.out.cells x3))); clear hg)
        | (go_at_call 75; (with_reducible show Calls _ _ #[.int .u32 (l : Nat)] _ _); refine (cG _).out.mono ?_; clear cG; rintro r v4 ⟨rfl, hg⟩; have HV4 : Hid (Gr W v4) := HV3.out.trans hg; have HQ := Lib.hid (And.intro (HV4.out.cells x0) (And.intro (HV4.out.cells x2) (HV4.out.cells x3))); clear hg))
    go_wp2
    go_ret
    exact ⟨ret_str HB.out.symm, HW.out.trans HV4.out⟩
theorem sl_putKid (k : ByteArray) (c : Nat) (hk : k.size ≤ 60000) (hc : c < 4294967296) (w : World) :
    Calls Try.prog 73 #[.agg #[.string k, .int .u32 (c : Nat)]] w fun r w' => r = .returned (.string (kiBytes k c)) ∧ Gr w w' := by
  have cK := fun w1 => Lib.hid (sl_putKey k (by omega) w1)
  have zk := keyBytes_size k
  have hw0 := heap_alloc_last w (.cells #[.string k, .int .u32 (c : Nat)] 61)
  have HW : Hid (Gr w (w.alloc (.cells #[.string k, .int .u32 (c : Nat)] 61))) := (Gr.refl w).alloc _
  have HB : Hid (kiBytes k c = keyBytes k ++ B (Oct.be c 4)) := rfl
  have cF := fun w1 => Lib.hid (oct_four c hc w1)
  have z2 := B_be_size c 4
  generalize keyBytes k = g1 at *
  generalize B (Oct.be c 4) = g3 at *
  generalize kiBytes k c = q at *
  have y1 : ¬ (9223372036854775807 < g1.size + g3.size) := by omega
  rw [z2] at y1
  have zk2 : g1.size ≤ 300 := by omega
  clear zk
  go_enter Try.func73, Try.ntmps73
  have x0 := row_cell hw0 0 _ rfl
  have x1 := row_cell hw0 1 _ rfl
  clear hw0
  go_wp2
  generalize w.alloc (.cells #[.string k, .int .u32 (c : Nat)] 61) = W at *
  generalize w.heap.size = g at *
  go_region_held3 (fun w' => w'.cell? ⟨g, 0, none⟩ = some (.string k) ∧ w'.cell? ⟨g, 1, none⟩ = some (.int .u32 (c : Nat))) (first | exact ⟨x0, x1⟩ | exact HQ.out | assumption)
    (first
      | (go_at_call 74; refine (cK _).out.mono ?_; clear cK; rintro r v1 ⟨rfl, hg⟩; have HV1 : Hid (Gr W v1) := (Gr.refl W).drew.trans hg; have HQ := Lib.hid (And.intro (HV1.out.cells x0) (HV1.out.cells x1)); clear hg)
      | (go_at_call 75; refine (cF _).out.mono ?_; clear cF; rintro r v3 ⟨rfl, hg⟩; have HV3 : Hid (Gr W v3) := HV1.out.trans hg; have HQ := Lib.hid (And.intro (HV3.out.cells x0) (HV3.out.cells x1)); clear hg))
  go_wp2
  go_ret
  exact ⟨ret_str HB.out.symm, HW.out.trans HV3.out⟩
theorem sl_keyLeaf (k v : ByteArray) (c l : Nat) (w : World) :
    Calls Try.prog 70 #[.agg #[.string k, .string v, .int .u32 (c : Nat), .int .u32 (l : Nat)]] w fun r w' => r = .returned (.string k) ∧ Gr w w' := by
  have HW : Hid (Gr w (w.alloc (.cells #[.string k, .string v, .int .u32 (c : Nat), .int .u32 (l : Nat)] 59))) := (Gr.refl w).alloc _
  go_enter Try.func70, Try.ntmps70
  go_wp2
  go_ret
  exact ⟨rfl, HW.out⟩
theorem sl_keyKid (k : ByteArray) (c : Nat) (w : World) :
    Calls Try.prog 79 #[.agg #[.string k, .int .u32 (c : Nat)]] w fun r w' => r = .returned (.string k) ∧ Gr w w' := by
  have HW : Hid (Gr w (w.alloc (.cells #[.string k, .int .u32 (c : Nat)] 61))) := (Gr.refl w).alloc _
  go_enter Try.func79, Try.ntmps79
  go_wp2
  go_ret
  exact ⟨rfl, HW.out⟩
def ceFits (v : ByteArray) (c : Nat) : Bool := if c ≠ 0 then decide (v.size = 0) else decide (v.size ≤ 400)
theorem sl_fits (k v : ByteArray) (c l : Nat) (hv : v.size ≤ 60000) (w : World) :
    Calls Try.prog 71 #[.agg #[.string k, .string v, .int .u32 (c : Nat), .int .u32 (l : Nat)]] w fun r w' => r = .returned (.bool (ceFits v c)) ∧ Gr w w' := by
  have HW : Hid (Gr w (w.alloc (.cells #[.string k, .string v, .int .u32 (c : Nat), .int .u32 (l : Nat)] 59))) := (Gr.refl w).alloc _
  by_cases h0 : c = 0
  · subst h0
    have e1 : ((0 : Nat) : Int) = 0 := rfl
    simp only [e1]
    by_cases h1 : v.size ≤ 400
    · have hF : Hid (ceFits v 0 = true) := by unfold Hid ceFits; simp [h1]
      have h2 : (v.size : Int) ≤ 400 := by omega
      go_enter Try.func71, Try.ntmps71
      go_wp2
      go_ret
      exact ⟨ret_bool hF.out.symm, HW.out⟩
    · have hF : Hid (ceFits v 0 = false) := by unfold Hid ceFits; simp; omega
      have h2 : ¬ (v.size : Int) ≤ 400 := by omega
      go_enter Try.func71, Try.ntmps71
      go_wp2
      go_ret
      exact ⟨ret_bool hF.out.symm, HW.out⟩
  · have hne : ((c : Int) != 0) = true := by simp; omega
    by_cases h1 : v = ByteArray.empty
    · subst h1
      have hF : Hid (ceFits ByteArray.empty c = true) := by unfold Hid ceFits; simp [h0]
      go_enter Try.func71, Try.ntmps71
      go_wp2
      go_ret
      exact ⟨ret_bool hF.out.symm, HW.out⟩
    · have hF : Hid (ceFits v c = false) := by
        unfold Hid ceFits
        rw [if_pos h0]
        refine decide_eq_false ?_
        intro hz
        exact h1 (by apply ByteArray.ext; apply Array.eq_empty_of_size_eq_zero; exact hz)
      have hb : v.toList.isEmpty = false := by
        rw [ByteArray.toList_eq]
        cases hl : v.data.toList with
        | nil => exact absurd (by apply ByteArray.ext; apply Array.ext'; exact hl) h1
        | cons a b => rfl
      go_enter Try.func71, Try.ntmps71
      go_wp2
      go_ret
      exact ⟨ret_bool hF.out.symm, HW.out⟩
end Go.Proofs.Ytmpmfgkabjedpaa
