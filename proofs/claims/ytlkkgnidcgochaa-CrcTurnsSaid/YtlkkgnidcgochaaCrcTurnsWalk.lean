/- The law CrcTurns, walked. -/
import Derived.Test.YtlkkgnidcgochaaCrcOf
import Derived.Test.YtlkkgnidcgochaaArgs
import Derived.Test.YtlkkgnidcgochaaCrcTurnMath
import Derived.Laws.IdiomStrings
namespace Go.Proofs.Ytlkkgnidcgochaa
open Go.RowKit
set_option linter.unusedVariables false
set_option maxRecDepth 100000
/-- block g holds the bytes l at its head, and they may be written -/
def BytesAt (w : World) (g : Nat) (l : List UInt8) : Prop := ∀ j (h : j < l.length), w.cell? ⟨g, j, none⟩ = some (.int .u8 (l[j].toNat : Nat)) ∧ w.frozen? ⟨g, j, none⟩ = false
theorem BytesAt.gr {w w' : World} {g : Nat} {l : List UInt8} (h : BytesAt w g l) (hg : Gr w w') : BytesAt w' g l := fun j hj =>
  ⟨hg.cells (h j hj).1, by rw [hg.frozen (block_lt_of_cell (h j hj).1)]; exact (h j hj).2⟩
theorem BytesAt.new (w : World) (e : TypeId) (s : ByteArray) (c : Nat) : BytesAt (w.alloc (.cells (bytesRow s c) e ((bytesRow s c).size, (bytesRow s c).size + 1))).drew w.heap.size s.data.toList := by
  have hh : (w.alloc (.cells (bytesRow s c) e ((bytesRow s c).size, (bytesRow s c).size + 1))).drew.heap[w.heap.size]? = some (.cells (bytesRow s c) e ((bytesRow s c).size, (bytesRow s c).size + 1)) := heap_alloc_last w _
  intro j hj
  have hj' : j < s.data.size := by simpa using hj
  constructor
  · rw [cell_of_row _ _ j _ _ _ hh]
    unfold bytesRow
    rw [Array.getElem?_append_left (by simpa using hj')]
    simp only [Array.getElem?_map, Array.getElem?_eq_getElem hj', Option.map_some]
    rfl
  · have : j < (bytesRow s c).size := by unfold bytesRow; rw [Array.size_append, Array.size_map]; omega
    simp only [World.frozen?, hh]
    simp; omega
theorem BytesAt.set {w : World} {g : Nat} {l : List UInt8} (h : BytesAt w g l) (i : Nat) (hi : i < l.length) (b : UInt8) : BytesAt (w.setCell ⟨g, i, none⟩ (.int .u8 (b.toNat : Nat))) g (l.set i b) := by
  intro j hj
  have hj' : j < l.length := by simpa using hj
  obtain ⟨hc, hf⟩ := h j hj'
  refine ⟨?_, by rw [World.frozen?_setCell]; exact hf⟩
  by_cases e : i = j
  · subst e
    rw [World.cell?_setCell_same _ _ _ (h i hi).1]
    simp
  · rw [World.cell?_setCell_other _ _ _ _ (by intro e'; cases e'; exact e rfl), hc]
    simp [e]
def Crc.turned (l : List UInt8) (k n : Nat) : Nat → List UInt8
  | 0 => l
  | i + 1 => (Crc.turned l k n i).set (k + i) ((Crc.turned l k n i).getD (k + i) 0 ^^^ UInt8.ofNat (n / 2 ^ (8 * i)))
theorem Crc.turned_length (l : List UInt8) (k n i : Nat) : (Crc.turned l k n i).length = l.length := by
  induction i with
  | zero => rfl
  | succ i ih => simp [Crc.turned, ih]
theorem Crc.turn_byte (b : UInt8) (n i : Nat) : bits .xor .u8 (b.toNat : Int) ((n : Int) / 2 ^ (8 * i) % 256) = (((b ^^^ UInt8.ofNat (n / 2 ^ (8 * i))).toNat : Nat) : Int) := by
  have e : ((n : Int) / 2 ^ (8 * i) % 256) = ((n / 2 ^ (8 * i) % 256 : Nat) : Int) := by simp
  rw [e, u8_xor_nat _ _ b.toNat_lt (by omega), UInt8.toNat_xor, UInt8.toNat_ofNat']
theorem Crc.turn_step {wr : World} {g k n i : Nat} {l : List UInt8} (h : BytesAt wr g (Crc.turned l k n i)) (hk : k + i < (Crc.turned l k n i).length) :
    BytesAt (wr.setCell ⟨g, k + i, none⟩ (.int .u8 (bits .xor .u8 ((Crc.turned l k n i)[k + i].toNat : Int) ((n : Int) / 2 ^ (8 * i) % 256)))).drew g (Crc.turned l k n (i + 1)) := by
  rw [Crc.turn_byte]
  have := h.set (k + i) hk ((Crc.turned l k n i)[k + i] ^^^ UInt8.ofNat (n / 2 ^ (8 * i)))
  have e : Crc.turned l k n (i + 1) = (Crc.turned l k n i).set (k + i) ((Crc.turned l k n i)[k + i] ^^^ UInt8.ofNat (n / 2 ^ (8 * i))) := by
    simp only [Crc.turned, List.getD, List.getElem?_eq_getElem hk, Option.getD_some]
  rw [e]
  exact this
theorem Crc.turned_ne (l : List UInt8) (k n : Nat) (hk : k + 4 ≤ l.length) (h0 : n ≠ 0) (hn : n < 4294967296) : Crc.add Crc.byt 0 (Crc.turned l k n 4) ≠ Crc.add Crc.byt 0 l := by
  obtain ⟨pre, b0, b1, b2, b3, post, rfl, rfl⟩ : ∃ pre b0 b1 b2 b3 post, l = pre ++ b0 :: b1 :: b2 :: b3 :: post ∧ k = pre.length := by
    refine ⟨l.take k, l[k], l[k + 1], l[k + 2], l[k + 3], l.drop (k + 4), ?_, by simp; omega⟩
    rw [← List.drop_eq_getElem_cons, ← List.drop_eq_getElem_cons, ← List.drop_eq_getElem_cons, ← List.drop_eq_getElem_cons, List.take_append_drop]
  have e : Crc.turned (pre ++ b0 :: b1 :: b2 :: b3 :: post) pre.length n 4 = pre ++ (b0 ^^^ UInt8.ofNat (n / 2 ^ (8 * 0))) :: (b1 ^^^ UInt8.ofNat (n / 2 ^ (8 * 1))) :: (b2 ^^^ UInt8.ofNat (n / 2 ^ (8 * 2))) :: (b3 ^^^ UInt8.ofNat (n / 2 ^ (8 * 3))) :: post := by
    simp [Crc.turned, List.getD]
  rw [e]
  refine Crc.turn_ne n h0 hn pre post _ _ _ _ _ _ _ _ ?_ ?_ ?_ ?_ <;> simp [UInt8.toNat_xor, UInt8.toNat_ofNat']
set_option maxHeartbeats 1000000 in
theorem walk_CrcTurns_ (s : ByteArray) (hs : s.size ≤ maxLen) (x : Int) (wx : (Lit.int .i64 x).wf = true) (n : Nat) (hn : n < 4294967296) (w : World) :
    Calls Try.prog 6 #[.string s, .int .i64 x, .int .u32 n] w fun e w' => e = .returned (.bool true) ∧ Gr w w' := by
  have hm := hs
  unfold maxLen at hm
  have hz := Lib.hid Crc.zsize
  by_cases h1 : s.size < 4
  · go_enter Try.func6, Try.ntmps6
    go_wp2_with (go_at_call 13; refine (law01_awake _).mono ?_; rintro e w1 ⟨rfl, hb⟩)
    all_goals go_ret
    all_goals exact ⟨rfl, hb⟩
  · by_cases h2 : 5000 < s.size
    · go_enter Try.func6, Try.ntmps6
      go_wp2_with (go_at_call 13; refine (law01_awake _).mono ?_; rintro e w1 ⟨rfl, hb⟩)
      all_goals go_ret
      all_goals exact ⟨rfl, hb⟩
    · by_cases h3 : n = 0
      · have h3' : ((n : Int) == 0) = true := by simp [h3]
        clear h3
        go_enter Try.func6, Try.ntmps6
        go_wp2_with (go_at_call 13; refine (law01_awake _).mono ?_; rintro e w1 ⟨rfl, hb⟩)
        all_goals go_ret
        all_goals exact ⟨rfl, hb⟩
      · have h3' : ((n : Int) == 0) = false := by simp; omega
        obtain ⟨X, hX⟩ := wrap_u64_nat x
        have hx : ((X : Int)).tmod ((s.size : Int) - 3) = ((X % (s.size - 3) : Nat) : Int) := by
          rw [Int.tmod_eq_emod_of_nonneg (by omega), Int.natCast_emod, Int.ofNat_sub (by omega)]; rfl
        have la : X % (s.size - 3) < s.size - 3 := Nat.mod_lt X (by omega)
        generalize X % (s.size - 3) = k at hx la
        have la' : (k : Int) + 3 < (s.size : Int) := by omega
        have hconv : ∀ w : World, (convert 9 36 (.string s)).run Try.prog w = .ok (.slice (some ⟨w.heap.size, 0, none⟩) s.size (grownCap w s.size 0 5)) (w.drew.alloc (.cells (bytesRow s (grownCap w s.size 0 5)) 5 ((bytesRow s (grownCap w s.size 0 5)).size, (bytesRow s (grownCap w s.size 0 5)).size + 1))) :=
          fun w => run_bytes_of_string w 9 36 5 s Try.underlying9 Try.underlying36 Try.underlying5
        go_enter Try.func6, Try.ntmps6
        go_wp2_with (go_at_call 13; refine (law01_awake _).mono ?_; rintro e w1 ⟨rfl, hb⟩)
        have HX : Hid (BytesAt (w1.alloc (.cells (bytesRow s (grownCap w1 s.size 0 5)) 5 ((bytesRow s (grownCap w1 s.size 0 5)).size, (bytesRow s (grownCap w1 s.size 0 5)).size + 1))).drew w1.heap.size s.data.toList ∧ Gr w (w1.alloc (.cells (bytesRow s (grownCap w1 s.size 0 5)) 5 ((bytesRow s (grownCap w1 s.size 0 5)).size, (bytesRow s (grownCap w1 s.size 0 5)).size + 1))).drew ∧ w.heap.size ≤ w1.heap.size) := ⟨BytesAt.new _ _ _ _, (hb.alloc _).drew, hb.size⟩
        clear hb hconv
        generalize (w1.alloc (.cells (bytesRow s (grownCap w1 s.size 0 5)) 5 ((bytesRow s (grownCap w1 s.size 0 5)).size, (bytesRow s (grownCap w1 s.size 0 5)).size + 1))).drew = W at *
        generalize grownCap w1 s.size 0 5 = cap at *
        generalize w1.heap.size = g at *
        go_loopw [35] (fun i wr => ∃ i' : Nat, i' ≤ 4 ∧ i = .int .i64 i' ∧ Hid (BytesAt wr g (Crc.turned s.data.toList k n i') ∧ Gr w wr)) (fun i _ => 4 - (intOf i).toNat)
        case atStart => exact ⟨0, by omega, rfl, HX.out.1, HX.out.2.1⟩
        case round =>
          obtain ⟨i, hi, rfl, HR⟩ := hrel
          by_cases hlt : i < 4
          · have hlen : (Crc.turned s.data.toList k n i).length = s.size := Crc.turned_length _ _ _ _
            have hcell := (HR.out.1 (k + i) (by omega)).1
            have hfr := (HR.out.1 (k + i) (by omega)).2
            go_wp2
            go_region
            go_wp2
            go_roundw
            case rel => exact ⟨i + 1, by omega, by go_num, Crc.turn_step HR.out.1 (by omega), (HR.out.2.setCell HX.out.2.2 _).drew⟩
            case measure => simp [intOf]; omega
          · obtain rfl : i = 4 := by omega
            have hlen : (Crc.turned s.data.toList k n 4).length = s.size := Crc.turned_length _ _ _ _
            have hne := Lib.hid (Crc.turned_ne s.data.toList k n (by rw [show s.data.toList.length = s.size from rfl]; omega) h3 hn)
            have hback : ∀ (w2 : World) (c : Array Value), Gr wr w2 → (convert 36 9 (.slice (some ⟨g, 0, none⟩) s.size cap)).run Try.prog (w2.alloc (.cells c 25)) = .ok (.string ⟨(Crc.turned s.data.toList k n 4).toArray⟩) (w2.alloc (.cells c 25)) := fun w2 c hg => by
              have h := (HR.out.1.gr hg).gr ((Gr.refl w2).alloc (.cells c 25))
              have h' := run_convert_bytes_back (P := Try.prog) (w2.alloc (.cells c 25)) 36 9 5 ⟨g, 0, none⟩ cap (Crc.turned s.data.toList k n 4) Try.underlying36 Try.underlying5 Try.underlying9 (fun j hj => by rw [Addr.add_mid, Nat.zero_add]; exact (h j hj).1)
              rw [hlen] at h'
              exact h'
            have hlS : (ByteArray.mk (Crc.turned s.data.toList k n 4).toArray).size ≤ maxLen := by
              show (Crc.turned s.data.toList k n 4).toArray.size ≤ maxLen
              rw [List.size_toArray, hlen]; exact hs
            clear hlen
            go_wp2_with (first
              | (go_at_call_of 18 (Value.string s); refine (crc_of Crc.byt Crc.byt_tab w2.heap.size _ hs _ (by exact Crc.At.new _ _ _)).mono ?_; rintro e w4 ⟨rfl, q4, rfl⟩)
              | (go_at_call 18; refine (crc_of Crc.byt Crc.byt_tab w2.heap.size _ hlS _ (by exact Crc.At.new _ _ _)).mono ?_; rintro e w3 ⟨rfl, q3, rfl⟩)
              | (go_at_call 14; refine (crc_make _).mono ?_; rintro e w2 ⟨rfl, hb2⟩)
              | ((with_reducible show wpList _ _ _ (⟨_, .store _ _ _, _, _, _, _⟩ :: _) _ _); (refine wpList_store_new rfl 25 (.tmp 10) (.tmp 52) rfl (Crc.tab Crc.byt) rfl rfl 25 Try.zeroCells25 (sz25 _) hz.out (Crc.tab_one _) ?_)))
            go_ret
            exact ⟨ret_bool (by rw [bne_iff_ne]; exact fun e => hne.out (by exact_mod_cast e)), (((HR.out.2.trans hb2).alloc _).drewN _)⟩
theorem walk_CrcTurns (s : ByteArray) (hs : s.size ≤ maxLen) (x : Int) (wx : (Lit.int .i64 x).wf = true) (y : Int) (wy : (Lit.int .u32 y).wf = true) (w : World) :
    Calls Try.prog 6 #[.string s, .int .i64 x, .int .u32 y] w fun e w' => e = .returned (.bool true) ∧ Gr w w' := by
  obtain ⟨n, rfl, hn⟩ := nat_u32 wy
  exact walk_CrcTurns_ s hs x wx n hn w
end Go.Proofs.Ytlkkgnidcgochaa
