/- Small words for all walks of this seat. -/
import Derived.Test.YtmpmfgkabjedpaaProg
import Derived.WalkKit
import Derived.Lib.Hide
import Derived.Deep.QuietTactic
import Derived.BigQuiet
import Derived.StillTailTactics
import Derived.Deep.RegionHeld3
import Derived.Deep.RegionWith
import Derived.RegionTactic
import Derived.ChangeAlike
import Derived.Deep.WholeRow
import Derived.Deep.MidRow
import Derived.Below
namespace Go.Proofs.Ytmpmfgkabjedpaa
open Go.RowKit
theorem ret_int {k : IntKind} {a b : Int} (h : a = b) : Ending.returned (.int k a) = .returned (.int k b) := by rw [h]
theorem ret_bool {a b : Bool} (h : a = b) : Ending.returned (.bool a) = .returned (.bool b) := by rw [h]
theorem ret_str {a b : ByteArray} (h : a = b) : Ending.returned (.string a) = .returned (.string b) := by rw [h]
theorem bcell {W w1 : World} (hb : Below W.heap.size W w1) : (∀ b o, b < W.heap.size → w1.cell? ⟨b, o, none⟩ = W.cell? ⟨b, o, none⟩) ∧ (∀ b o, b < W.heap.size → w1.frozen? ⟨b, o, none⟩ = W.frozen? ⟨b, o, none⟩) :=
  ⟨fun b o h => hb.cell (p := ⟨b, o, none⟩) h, fun b o h => hb.frozen (p := ⟨b, o, none⟩) h⟩
theorem wpList_store_new {P : Program} {ops : Array Oper} {rest : List Oper} {o : Oper} {a : Act} {w : World} {Q : Exit → Act → World → Prop} (hgd : o.guard = none) (ty : TypeId) (x y : Operand) (ho : o.op = .store ty x y)
    (cells : Array Value) (hx : a.eval x = .pointer (some ⟨w.heap.size, 0, none⟩)) (hy : a.eval y = .agg cells)
    (t : TypeId) (old : Array Value) (hi : (P.info? ty).map (·.size) = some cells.size)
    (hold : old.size = cells.size) (h1 : cells.all (·.oneCell') = true)
    (h : wpList P ops Q rest (a.put o.dst undef) (w.alloc (.cells cells t))) : wpList P ops Q (o :: rest) a (w.alloc (.cells old t)) :=
  wpList_store_row hgd ty x y ho w.heap.size cells hx hy t old (heap_alloc_last _ _) hi hold h1 (by rw [World.setRow_alloc_new]; exact h)
theorem below_setRow {B : Nat} {a w : World} (h : Below B a w) {g : Nat} (hg : B ≤ g) (cs : Array Value) : Below B a (w.setRow g cs) :=
  h.trans ⟨rfl, rfl, rfl, by simp, fun k hk => setRow_other _ _ _ _ (by omega)⟩
/-- w' is w with more blocks; nothing that was there has turned -/
def Gr (w w' : World) : Prop := Below w.heap.size w w'
theorem Gr.refl (w : World) : Gr w w := Below.refl _ _
theorem Gr.trans {a b c : World} (h : Gr a b) (k : Gr b c) : Gr a c := Below.trans h (Below.mono k (Below.size h))
theorem Gr.size {a b : World} (h : Gr a b) : a.heap.size ≤ b.heap.size := Below.size h
theorem Gr.drew {a b : World} (h : Gr a b) : Gr a b.drew := Below.drew h
theorem Gr.drewN {a b : World} (h : Gr a b) (q : Nat) : Gr a (b.drewN q) := Below.trans h ⟨rfl, rfl, rfl, Nat.le_refl _, fun _ _ => rfl⟩
theorem Gr.alloc {a b : World} (h : Gr a b) (o : Obj) : Gr a (b.alloc o) := Below.alloc h (Below.size h) o
theorem Gr.setCell {a b : World} (h : Gr a b) {p : Addr} (hp : a.heap.size ≤ p.block) (u : Value) : Gr a (b.setCell p u) := Below.setCell h hp u
theorem Gr.setRow {a b : World} (h : Gr a b) {g : Nat} (hp : a.heap.size ≤ g) (cs : Array Value) : Gr a (b.setRow g cs) := below_setRow h hp cs
theorem Gr.cell {a b : World} (h : Gr a b) {p : Addr} (hp : p.block < a.heap.size) : b.cell? p = a.cell? p := Below.cell h hp
theorem Gr.frozen {a b : World} (h : Gr a b) {p : Addr} (hp : p.block < a.heap.size) : b.frozen? p = a.frozen? p := Below.frozen h hp
theorem Gr.block {a b : World} (h : Gr a b) {k : Nat} (hk : k < a.heap.size) : b.heap[k]? = a.heap[k]? := Below.block h k hk
theorem Gr.cells {a b : World} (h : Gr a b) {p : Addr} {v : Value} (hp : a.cell? p = some v) : b.cell? p = some v := (h.cell (block_lt_of_cell hp)).trans hp
/-- only draws between -/
def Dr (w w' : World) : Prop := ∃ q, w' = w.drewN q
theorem Dr.refl (w : World) : Dr w w := ⟨0, rfl⟩
theorem Dr.trans {a b c : World} (h : Dr a b) (k : Dr b c) : Dr a c := by
  obtain ⟨q, rfl⟩ := h
  obtain ⟨r, rfl⟩ := k
  exact ⟨q + r, by rw [World.drewN_drewN]⟩
theorem Dr.gr {a b : World} (h : Dr a b) : Gr a b := by
  obtain ⟨q, rfl⟩ := h
  exact (Gr.refl a).drewN q
theorem Dr.drewN {a b : World} (h : Dr a b) (q : Nat) : Dr a (b.drewN q) := h.trans ⟨q, rfl⟩
theorem Dr.drew {a b : World} (h : Dr a b) : Dr a b.drew := h.trans ⟨1, rfl⟩
theorem Dr.heap {a b : World} (h : Dr a b) : b.heap = a.heap := by
  obtain ⟨q, rfl⟩ := h
  rfl
theorem wrap_u64_nat (x : Int) : ∃ X : Nat, IntKind.u64.wrap x = X := by
  refine ⟨(IntKind.u64.wrap x).toNat, ?_⟩
  have : 0 ≤ IntKind.u64.wrap x := by
    simp only [IntKind.wrap, IntKind.bits, IntKind.signed, Bool.false_and, Bool.false_eq_true, if_false]
    exact Int.emod_nonneg _ (by decide)
  omega
theorem tmod_nat (X n : Nat) : ((X : Int)).tmod ((n : Int) + 1) = ((X % (n + 1) : Nat) : Int) := by
  rw [Int.tmod_eq_emod_of_nonneg (by omega)]; rfl
end Go.Proofs.Ytmpmfgkabjedpaa
namespace Go.Proofs.Ytmpmfgkabjedpaa.Oct
set_option linter.unusedVariables false
set_option linter.unusedSimpArgs false
/-- the last k bytes of n -/
def be (n : Nat) : Nat → List UInt8
  | 0 => []
  | k + 1 => be (n / 256) k ++ [UInt8.ofNat n]
theorem be_length (n k : Nat) : (be n k).length = k := by
  induction k generalizing n with
  | zero => rfl
  | succ k ih => simp [be, ih]
theorem be_get (n k i : Nat) (h : i < k) : (be n k)[i]'(by rw [be_length]; exact h) = UInt8.ofNat (n / 256 ^ (k - 1 - i)) := by
  induction k generalizing n with
  | zero => omega
  | succ k ih =>
    simp only [be]
    by_cases hi : i < k
    · rw [List.getElem_append_left (by rw [be_length]; exact hi), ih (n / 256) hi, Nat.div_div_eq_div_mul]
      congr 2
      rw [show k + 1 - 1 - i = (k - 1 - i) + 1 by omega, Nat.pow_succ, Nat.mul_comm]
    · obtain rfl : i = k := by omega
      rw [List.getElem_append_right (by rw [be_length]; omega)]
      simp [be_length]
theorem be_mod (n k : Nat) : be (n % 256 ^ k) k = be n k := by
  apply List.ext_getElem
  · simp [be_length]
  · intro i h1 h2
    rw [be_length] at h1
    rw [be_get _ _ _ h1, be_get _ _ _ h1]
    apply UInt8.toNat.inj
    simp only [UInt8.toNat_ofNat']
    have e : 256 ^ k = 256 ^ (k - 1 - i) * 256 ^ (i + 1) := by rw [← Nat.pow_add]; congr 1; omega
    rw [e, Nat.mod_mul_right_div_self, Nat.pow_succ]
    exact Nat.mod_mul_left_mod _ _ _
theorem snoc_ind {P : List UInt8 → Prop} (h0 : P []) (h1 : ∀ l b, P l → P (l ++ [b])) (l : List UInt8) : P l := by
  have h : ∀ k (l : List UInt8), l.length = k → P l := by
    intro k
    induction k with
    | zero => intro l hl; rw [List.length_eq_zero_iff.1 hl]; exact h0
    | succ k ih =>
      intro l hl
      have hne : l ≠ [] := by intro e; subst e; simp at hl
      rw [← List.dropLast_concat_getLast hne]
      exact h1 _ _ (ih _ (by simp [hl]))
  exact h _ l rfl
/-- the number that bytes are -/
def num : List UInt8 → Nat
  | l => l.foldl (fun a b => a * 256 + b.toNat) 0
theorem foldl_num (l : List UInt8) (a : Nat) : l.foldl (fun a b => a * 256 + b.toNat) a = a * 256 ^ l.length + num l := by
  unfold num
  induction l generalizing a with
  | nil => simp
  | cons b l ih =>
    simp only [List.foldl_cons, List.length_cons]
    rw [ih, ih (0 * 256 + b.toNat), Nat.pow_succ, Nat.zero_mul, Nat.zero_add, Nat.add_mul, Nat.mul_assoc, Nat.mul_comm 256, Nat.add_assoc]
theorem num_snoc (l : List UInt8) (b : UInt8) : num (l ++ [b]) = num l * 256 + b.toNat := by simp [num, List.foldl_append]
theorem num_lt (l : List UInt8) : num l < 256 ^ l.length := by
  induction l using snoc_ind with
  | h0 => simp [num]
  | h1 l b ih =>
    rw [num_snoc, List.length_append, List.length_singleton, Nat.pow_succ]
    have := b.toNat_lt
    omega
theorem num_be (n k : Nat) (h : n < 256 ^ k) : num (be n k) = n := by
  induction k generalizing n with
  | zero => simp at h; subst h; rfl
  | succ k ih =>
    simp only [be]
    rw [num_snoc, ih (n / 256) (by rw [Nat.pow_succ] at h; omega), UInt8.toNat_ofNat']
    omega
theorem be_num (l : List UInt8) : be (num l) l.length = l := by
  induction l using snoc_ind with
  | h0 => rfl
  | h1 l b ih =>
    rw [num_snoc, List.length_append, List.length_singleton]
    have hb := b.toNat_lt
    simp only [be]
    rw [show (num l * 256 + b.toNat) / 256 = num l by omega, ih]
    congr 1
    simp only [List.cons.injEq, and_true]
    apply UInt8.toNat.inj
    rw [UInt8.toNat_ofNat']
    omega
end Go.Proofs.Ytmpmfgkabjedpaa.Oct
namespace Go.Proofs.Ytmpmfgkabjedpaa
/-- bytes as a text -/
def B (l : List UInt8) : ByteArray := ⟨l.toArray⟩
theorem B_list (l : List UInt8) : (B l).data.toList = l := rfl
theorem B_size (l : List UInt8) : (B l).size = l.length := by show l.toArray.size = _; simp
theorem B_app (l r : List UInt8) : B l ++ B r = B (l ++ r) := by
  apply ByteArray.ext
  simp [B]
theorem B_be_size (n k : Nat) : (B (Oct.be n k)).size = k := by rw [B_size, Oct.be_length]
end Go.Proofs.Ytmpmfgkabjedpaa
namespace Go.Proofs.Ytmpmfgkabjedpaa
open Go.RowKit
set_option linter.unusedVariables false
set_option linter.unusedSimpArgs false
/-- only block b may have changed, and blocks may have come -/
structure Ch (b : Nat) (w w' : World) : Prop where
  os : w'.os = w.os
  tape : w'.tape = w.tape
  output : w'.output = w.output
  size : w.heap.size ≤ w'.heap.size
  block : ∀ k, k < w.heap.size → k ≠ b → w'.heap[k]? = w.heap[k]?
theorem Ch.refl (b : Nat) (w : World) : Ch b w w := ⟨rfl, rfl, rfl, Nat.le_refl _, fun _ _ _ => rfl⟩
theorem Ch.trans {b : Nat} {x y z : World} (h : Ch b x y) (k : Ch b y z) : Ch b x z :=
  ⟨k.os.trans h.os, k.tape.trans h.tape, k.output.trans h.output, Nat.le_trans h.size k.size, fun i hi hb => (k.block i (Nat.lt_of_lt_of_le hi h.size) hb).trans (h.block i hi hb)⟩
theorem Gr.ch {w w' : World} (h : Gr w w') (b : Nat) : Ch b w w' := ⟨Below.os h, Below.tape h, Below.output h, Below.size h, fun k hk _ => Below.block h k hk⟩
theorem Ch.drewN {b : Nat} {w w' : World} (h : Ch b w w') (q : Nat) : Ch b w (w'.drewN q) := h.trans ((Gr.refl w').drewN q |>.ch b)
theorem Ch.drew {b : Nat} {w w' : World} (h : Ch b w w') : Ch b w w'.drew := h.trans ((Gr.refl w').drew |>.ch b)
theorem Ch.alloc {b : Nat} {w w' : World} (h : Ch b w w') (o : Obj) : Ch b w (w'.alloc o) := h.trans ((Gr.refl w').alloc o |>.ch b)
theorem Ch.setCell {b : Nat} {w w' : World} (h : Ch b w w') (i : Nat) (u : Value) : Ch b w (w'.setCell ⟨b, i, none⟩ u) :=
  h.trans ⟨rfl, rfl, rfl, by simp [World.setCell], fun k hk hb => Below.heap_setCell _ _ _ _ (by exact hb)⟩
/-- the block is the call's own: nothing old has turned -/
theorem Ch.gr {b : Nat} {w w1 w2 : World} (h : Ch b w1 w2) (hg : Gr w w1) (hb : w.heap.size ≤ b) : Gr w w2 :=
  ⟨h.os.trans (Below.os hg), h.tape.trans (Below.tape hg), h.output.trans (Below.output hg), Nat.le_trans (Below.size hg) h.size,
   fun k hk => (h.block k (Nat.lt_of_lt_of_le hk (Below.size hg)) (by omega)).trans (Below.block hg k hk)⟩
theorem Ch.cell {b : Nat} {w w' : World} (h : Ch b w w') {p : Addr} (hp : p.block ≠ b) {v : Value} (hv : w.cell? p = some v) : w'.cell? p = some v :=
  (World.cell?_of_block (w := w) (h.block p.block (block_lt_of_cell hv) hp)).trans hv
theorem Ch.frozen {b : Nat} {w w' : World} (h : Ch b w w') {p : Addr} (hp : p.block ≠ b) (hl : p.block < w.heap.size) : w'.frozen? p = w.frozen? p :=
  World.frozen?_of_block (w := w) (h.block p.block hl hp)

/-- a reader (the program's or the reference's): a text and an error's number -/
structure RdAt (w : World) (b : Nat) (s : ByteArray) (e : Int) : Prop where
  s : w.cell? ⟨b, 0, none⟩ = some (.string s)
  e : w.cell? ⟨b, 1, none⟩ = some (.int .i64 e)
  sf : w.frozen? ⟨b, 0, none⟩ = false
  ef : w.frozen? ⟨b, 1, none⟩ = false
theorem RdAt.lt {w : World} {b : Nat} {s : ByteArray} {e : Int} (h : RdAt w b s e) : b < w.heap.size := block_lt_of_cell h.s
theorem RdAt.gr {w w' : World} {b : Nat} {s : ByteArray} {e : Int} (h : RdAt w b s e) (hg : Gr w w') : RdAt w' b s e :=
  ⟨hg.cells h.s, hg.cells h.e, (hg.frozen h.lt).trans h.sf, (hg.frozen h.lt).trans h.ef⟩
theorem RdAt.ch {w w' : World} {b c : Nat} {s : ByteArray} {e : Int} (h : RdAt w b s e) (hg : Ch c w w') (hne : b ≠ c) : RdAt w' b s e :=
  ⟨hg.cell hne h.s, hg.cell hne h.e, (hg.frozen hne h.lt).trans h.sf, (hg.frozen hne h.lt).trans h.ef⟩
theorem RdAt.new (w : World) (t : TypeId) (s : ByteArray) (e : Int) : RdAt (w.alloc (.cells #[.string s, .int .i64 e] t)) w.heap.size s e := by
  have h := heap_alloc_last w (.cells #[.string s, .int .i64 e] t)
  exact ⟨by rw [cell_of_row _ _ 0 _ _ _ h]; rfl, by rw [cell_of_row _ _ 1 _ _ _ h]; rfl, frozen_of_row _ _ 0 _ _ h, frozen_of_row _ _ 1 _ _ h⟩
theorem RdAt.setS {w : World} {b : Nat} {s : ByteArray} {e : Int} (h : RdAt w b s e) (t : ByteArray) : RdAt (w.setCell ⟨b, 0, none⟩ (.string t)) b t e :=
  ⟨World.cell?_setCell_same _ _ _ h.s, by rw [World.cell?_setCell_other _ _ _ _ (by intro x; cases x)]; exact h.e, by rw [World.frozen?_setCell]; exact h.sf, by rw [World.frozen?_setCell]; exact h.ef⟩
theorem RdAt.setE {w : World} {b : Nat} {s : ByteArray} {e : Int} (h : RdAt w b s e) (f : Int) : RdAt (w.setCell ⟨b, 1, none⟩ (.int .i64 f)) b s f :=
  ⟨by rw [World.cell?_setCell_other _ _ _ _ (by intro x; cases x)]; exact h.s, World.cell?_setCell_same _ _ _ h.e, by rw [World.frozen?_setCell]; exact h.sf, by rw [World.frozen?_setCell]; exact h.ef⟩

/-- what a reader answers, and what is left of it -/
def rdTake (s : ByteArray) (e n : Int) : ByteArray × ByteArray × Int :=
  if e ≠ 0 then (ByteArray.empty, s, e) else if n < 0 ∨ (s.size : Int) < n then (ByteArray.empty, s, 3) else (s.extract 0 n.toNat, s.extract n.toNat s.size, e)
def rdNum (s : ByteArray) (e : Int) (k : Nat) : Nat × ByteArray × Int := (Oct.num (rdTake s e k).1.data.toList, (rdTake s e k).2)
def rdFail (e f : Int) : Int := if e = 0 then f else e
def rdText (s : ByteArray) (e most : Int) : ByteArray × ByteArray × Int :=
  if max most 0 < ((rdNum s e 4).1 : Int) then (ByteArray.empty, (rdNum s e 4).2.1, rdFail (rdNum s e 4).2.2 5) else rdTake (rdNum s e 4).2.1 (rdNum s e 4).2.2 (rdNum s e 4).1
def rdEnd (s : ByteArray) (e : Int) : Int := if e ≠ 0 then e else if 0 < s.size then 4 else 0
theorem rdTake_size (s : ByteArray) (e n : Int) : (rdTake s e n).1.size ≤ s.size ∧ (rdTake s e n).2.1.size ≤ s.size ∧ ((rdTake s e n).1.size : Int) ≤ max n 0 := by
  unfold rdTake
  split
  · exact ⟨by show (0 : Nat) ≤ _; omega, Nat.le_refl _, by show ((0 : Nat) : Int) ≤ _; omega⟩
  · split
    · exact ⟨by show (0 : Nat) ≤ _; omega, Nat.le_refl _, by show ((0 : Nat) : Int) ≤ _; omega⟩
    · simp only [ByteArray.size_extract]; omega
theorem rdNum_lt (s : ByteArray) (e : Int) (k : Nat) : (rdNum s e k).1 < 256 ^ k := by
  have h := Oct.num_lt (rdTake s e k).1.data.toList
  have h2 := (rdTake_size s e k).2.2
  refine Nat.lt_of_lt_of_le h (Nat.pow_le_pow_right (by omega) ?_)
  show (rdTake s e k).1.size ≤ k
  omega
theorem rdNum_size (s : ByteArray) (e : Int) (k : Nat) : (rdNum s e k).2.1.size ≤ s.size := (rdTake_size s e k).2.1
theorem rdText_size (s : ByteArray) (e n : Int) : (rdText s e n).1.size ≤ s.size ∧ (rdText s e n).2.1.size ≤ s.size := by
  unfold rdText
  have h := rdNum_size s e 4
  split
  · exact ⟨by show (0 : Nat) ≤ _; omega, h⟩
  · have := rdTake_size (rdNum s e 4).2.1 (rdNum s e 4).2.2 (rdNum s e 4).1
    exact ⟨Nat.le_trans this.1 h, Nat.le_trans this.2.1 h⟩
end Go.Proofs.Ytmpmfgkabjedpaa
namespace Go.Proofs.Ytmpmfgkabjedpaa
open Go.RowKit
set_option linter.unusedVariables false
set_option linter.unusedSimpArgs false
set_option maxHeartbeats 400000
theorem oct_take (b : Nat) (s : ByteArray) (hs : s.size ≤ maxLen) (e n : Int) (w : World) (h : RdAt w b s e) :
    Calls Try.prog 111 #[.pointer (some ⟨b, 0, none⟩), .int .i64 n] w fun x w' => x = .returned (.string (rdTake s e n).1) ∧ RdAt w' b (rdTake s e n).2.1 (rdTake s e n).2.2 ∧ Ch b w w' := by
  have H := Lib.hid h
  obtain ⟨h1, h2, h3, h4⟩ := h
  unfold maxLen at hs
  by_cases he : e = 0
  · by_cases hn : n < 0 ∨ (s.size : Int) < n
    · have hr : Hid (rdTake s e n = (ByteArray.empty, s, 3)) := by unfold Hid rdTake; rw [if_neg (by omega), if_pos hn]
      have he0 : (e != 0) = false := by simp [he]
      rw [hr.out]
      clear he
      rcases hn with hn | hn
      all_goals
        go_enter Try.func111, Try.ntmps111
        go_wp2
        go_ret
        exact ⟨rfl, H.out.setE 3, (Ch.refl b w).setCell 1 _⟩
    · have hr : Hid (rdTake s e n = (s.extract 0 n.toNat, s.extract n.toNat s.size, e)) := by unfold Hid rdTake; rw [if_neg (by omega), if_neg hn]
      have he0 : (e != 0) = false := by simp [he]
      rw [hr.out]
      clear he
      have g1 : ¬ n < 0 := fun x => hn (.inl x)
      have g2 : ¬ (s.size : Int) < n := fun x => hn (.inr x)
      have g3 : 0 ≤ n := by omega
      have g4 : n ≤ (s.size : Int) := by omega
      clear hn
      go_enter Try.func111, Try.ntmps111
      go_wp2
      go_ret
      exact ⟨rfl, H.out.setS _, (Ch.refl b w).setCell 0 _⟩
  · have hr : Hid (rdTake s e n = (ByteArray.empty, s, e)) := by unfold Hid rdTake; rw [if_pos he]
    have he0 : (e != 0) = true := by simp [he]
    rw [hr.out]
    clear he
    go_enter Try.func111, Try.ntmps111
    go_wp2
    go_ret
    exact ⟨rfl, H.out, Ch.refl b w⟩
theorem oct_fail (b : Nat) (s : ByteArray) (e f : Int) (w : World) (h : RdAt w b s e) :
    Calls Try.prog 112 #[.pointer (some ⟨b, 0, none⟩), .int .i64 f] w fun x w' => x = .returned (.tuple #[]) ∧ RdAt w' b s (rdFail e f) ∧ Ch b w w' := by
  have H := Lib.hid h
  obtain ⟨h1, h2, h3, h4⟩ := h
  by_cases he : e = 0
  · have hr : Hid (rdFail e f = f) := by unfold Hid rdFail; rw [if_pos he]
    have he0 : (e == 0) = true := by simp [he]
    rw [hr.out]
    clear he
    go_enter Try.func112, Try.ntmps112
    go_wp2
    go_end0
    exact ⟨rfl, H.out.setE f, (Ch.refl b w).setCell 1 _⟩
  · have hr : Hid (rdFail e f = e) := by unfold Hid rdFail; rw [if_neg he]
    have he0 : (e == 0) = false := by simp [he]
    rw [hr.out]
    clear he
    go_enter Try.func112, Try.ntmps112
    go_wp2
    go_end0
    exact ⟨rfl, H.out, Ch.refl b w⟩
theorem oct_left (b : Nat) (s : ByteArray) (e : Int) (w : World) (h : RdAt w b s e) :
    Calls Try.prog 98 #[.pointer (some ⟨b, 0, none⟩)] w fun x w' => x = .returned (.int .i64 s.size) ∧ w = w' := by
  obtain ⟨h1, h2, h3, h4⟩ := h
  go_enter Try.func98, Try.ntmps98
  go_wp2
  go_ret
  exact ⟨rfl, rfl⟩
theorem oct_err (b : Nat) (s : ByteArray) (e : Int) (w : World) (h : RdAt w b s e) :
    Calls Try.prog 99 #[.pointer (some ⟨b, 0, none⟩)] w fun x w' => x = .returned (.int .i64 e) ∧ w = w' := by
  obtain ⟨h1, h2, h3, h4⟩ := h
  go_enter Try.func99, Try.ntmps99
  go_wp2
  go_ret
  exact ⟨rfl, rfl⟩
theorem oct_end (b : Nat) (s : ByteArray) (e : Int) (w : World) (h : RdAt w b s e) :
    Calls Try.prog 100 #[.pointer (some ⟨b, 0, none⟩)] w fun x w' => x = .returned (.int .i64 (rdEnd s e)) ∧ w = w' := by
  have H := Lib.hid h
  obtain ⟨h1, h2, h3, h4⟩ := h
  by_cases he : e = 0
  · have he0 : (e != 0) = false := by simp [he]
    by_cases hz : 0 < s.size
    · have hr : Hid (rdEnd s e = 4) := by unfold Hid rdEnd; rw [if_neg (by omega), if_pos hz]
      have hz' : (0 : Int) < (s.size : Int) := by omega
      rw [hr.out]
      clear he
      go_enter Try.func100, Try.ntmps100
      go_wp2_with (go_at_call 99; refine (oct_err b s e _ H.out).mono ?_; rintro e w1 ⟨rfl, rfl⟩)
      go_ret
      exact ⟨rfl, rfl⟩
    · have hr : Hid (rdEnd s e = 0) := by unfold Hid rdEnd; rw [if_neg (by omega), if_neg hz]
      have hz' : ¬ (0 : Int) < (s.size : Int) := by omega
      rw [hr.out]
      clear he
      go_enter Try.func100, Try.ntmps100
      go_wp2_with (go_at_call 99; refine (oct_err b s e _ H.out).mono ?_; rintro e w1 ⟨rfl, rfl⟩)
      go_ret
      exact ⟨rfl, rfl⟩
  · have hr : Hid (rdEnd s e = e) := by unfold Hid rdEnd; rw [if_pos he]
    have he0 : (e != 0) = true := by simp [he]
    rw [hr.out]
    clear he
    go_enter Try.func100, Try.ntmps100
    go_wp2_with (go_at_call 99; refine (oct_err b s e _ H.out).mono ?_; rintro e w1 ⟨rfl, rfl⟩)
    go_ret
    exact ⟨rfl, rfl⟩
end Go.Proofs.Ytmpmfgkabjedpaa
