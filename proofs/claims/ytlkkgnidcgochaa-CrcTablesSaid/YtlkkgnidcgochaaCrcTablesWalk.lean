/- The law CrcTables, walked. -/
import Derived.Test.YtlkkgnidcgochaaCrcOf
import Derived.Test.YtlkkgnidcgochaaArgs
namespace Go.Proofs.Ytlkkgnidcgochaa
open Go.RowKit
set_option linter.unusedVariables false
set_option maxRecDepth 100000
theorem Crc.open_tab {H : Type} {enc : TypeId × Value → H} {w : World} {base : Nat} {spare : Nat → Bool} {held : Bool} {r : Reach} {b0 : Nat} {v : Value} {d : DataW H} {p : List MemPlace}
    (hv : Value.okWide Try.prog w r b0 25 v) (h : DataW.Trod enc Try.prog w base spare held 25 v d p) :
    ∃ T : Nat → Nat, (∀ i, i < 256 → T i < 4294967296) ∧ v = .agg (Crc.tab T) := by
  obtain ⟨cs, rfl, hsz, hc⟩ := open_int_array Try.underlying25 Try.underlying22 (by kernel_rfl) (by kernel_rfl) hv h
  have hc' : ∀ i, ∃ n : Nat, i < 256 → cs[i]? = some (.int .u32 n) ∧ n < 4294967296 := by
    intro i
    by_cases hi : i < 256
    · obtain ⟨z, hz, hw⟩ := hc i hi
      obtain ⟨n, rfl, hn⟩ := nat_u32 hw
      exact ⟨n, fun _ => ⟨hz, hn⟩⟩
    · exact ⟨0, fun h => absurd h hi⟩
  obtain ⟨T, hT⟩ : ∃ T : Nat → Nat, ∀ i, i < 256 → cs[i]? = some (.int .u32 (T i : Nat)) ∧ T i < 4294967296 := ⟨fun i => (hc' i).choose, fun i hi => (hc' i).choose_spec hi⟩
  refine ⟨T, fun i hi => (hT i hi).2, ?_⟩
  congr 1
  apply Array.ext_getElem?
  intro i
  by_cases hi : i < 256
  · rw [(hT i hi).1, Crc.tab_get _ hi]
  · rw [Array.getElem?_eq_none (by omega), Array.getElem?_eq_none (by rw [Crc.tab_size]; omega)]

set_option maxHeartbeats 400000 in
theorem ref_through (T : Nat → Nat) (hT : ∀ i, i < 256 → T i < 4294967296) (n : Nat) (hn : n < 4294967296) (s : ByteArray) (hs : s.size ≤ maxLen) (w : World) :
    Calls Try.prog 20 #[.agg (Crc.tab T), .int .u32 n, .string s] w fun e w' => e = .returned (.int .u32 (Crc.add T n s.data.toList : Nat)) ∧ Gr w w' := by
  unfold maxLen at hs
  go_enter Try.func20, Try.ntmps20
  go_wp2
  have HC := Lib.hid (Crc.At.new w T 24)
  have HG : Hid (Gr w (w.alloc (.cells (Crc.tab T) 24))) := (Gr.refl w).alloc _
  generalize w.heap.size = g at *
  generalize w.alloc (.cells (Crc.tab T) 24) = W at *
  go_loop [1, 7] (fun x i => ∃ k : Nat, k ≤ s.size ∧ i = .int .i64 k ∧ x = .int .u32 (Crc.thru T (4294967295 - n) (s.data.toList.take k) : Nat)) (fun _ i => s.size - (intOf i).toNat)
  case atStart => exact ⟨0, by omega, rfl, by simp only [List.take_zero, Crc.thru]; congr 1; omega⟩
  case round =>
    obtain ⟨k, hk, rfl, rfl⟩ := hrel
    have hl := Crc.thru_lt hT (s := 4294967295 - n) (by omega) (s.data.toList.take k)
    have HT := fun h => Lib.hid (Crc.thru_take T (4294967295 - n) s k h)
    have HA : Hid (Crc.add T n s.data.toList = 4294967295 - Crc.thru T (4294967295 - n) (s.data.toList)) := rfl
    generalize ht : Crc.thru T (4294967295 - n) (s.data.toList.take k) = t at hl HT
    have Ht := Lib.hid ht
    clear ht
    by_cases hlt : k < s.size
    · have hj := Crc.ix_lt t s[k]
      have hix := Crc.ix_eq t s[k]
      have hcell : W.cell? ⟨g, t % 256 ^^^ s[k].toNat, none⟩ = some (.int .u32 (T (t % 256 ^^^ s[k].toNat) : Nat)) := HC.out _ hj
      generalize hJ : t % 256 ^^^ s[k].toNat = j at *
      have HJ := Lib.hid hJ
      clear hJ
      go_wp2
      go_round
      case rel => exact ⟨k + 1, by omega, by go_num, by rw [(HT hlt).out, HJ.out, Crc.rest_eq _ _ (hT _ hj) hl]⟩
      case measure => simp [intOf]; omega
    · obtain rfl : k = s.size := by omega
      go_wp2
      go_ret
      exact ⟨ret_int (by rw [HA.out]; rw [take_all] at Ht; rw [Ht.out]; omega), HG.out⟩

theorem range_gr {w w' : World} {b o : Nat} {cs : List Value} (h : w.rangeAt b o cs) (hg : Gr w w') : w'.rangeAt b o cs := fun j v hv => hg.cells (h j v hv)
set_option maxHeartbeats 1000000 in
theorem walk_CrcTables_ (T : Nat → Nat) (hT : ∀ i, i < 256 → T i < 4294967296) (a : Int) (wa : (Lit.int .u32 a).wf = true) (s : ByteArray) (hs : s.size ≤ maxLen) (w : World) :
    Calls Try.prog 4 #[.agg (Crc.tab T), .int .u32 a, .string s] w fun e w' => e = .returned (.bool true) ∧ Gr w w' := by
  obtain ⟨n, rfl, hn⟩ := nat_u32 wa
  clear wa
  have hm := hs
  unfold maxLen at hm
  by_cases hlen : 5000 < s.size
  · go_enter Try.func4, Try.ntmps4
    go_wp2_with (go_at_call 13; refine (law01_awake _).mono ?_; rintro e w1 ⟨rfl, hb⟩)
    go_ret
    exact ⟨rfl, ((Gr.refl w).alloc _).trans hb⟩
  · have HC := Lib.hid (Crc.At.new w T 25)
    go_enter Try.func4, Try.ntmps4
    go_wp2_with (go_at_call 13; refine (law01_awake _).mono ?_; rintro e w1 ⟨rfl, hb⟩)
    have HX : Hid (w1.rangeAt w.heap.size 0 (Crc.tab T).toList ∧ Crc.At w1 w.heap.size T ∧ Gr w w1) := by
      have h1 := hb.block (k := w.heap.size) (by show w.heap.size < (w.heap.push _).size; simp)
      have h2 := h1.trans (heap_alloc_last w _)
      exact ⟨fun j v hj => by rw [Nat.zero_add, cell_of_row _ _ j _ _ _ h2]; simpa using hj, HC.out.gr hb, ((Gr.refl w).alloc _).trans hb⟩
    clear hb HC
    generalize w.heap.size = g at *
    have hu := Try.underlying25
    have hsz : (Try.prog.info? 25).map (·.size) = some (Crc.tab T).toList.length := by rw [Array.length_toList]; exact sz25 _
    go_region_held3 (fun w' => w'.rangeAt g 0 (Crc.tab T).toList) (first | exact HX.out.1 | assumption | (refine range_gr ?_ (by assumption); exact HX.out.1))
      (first
      | (go_at_call 20; (try rw [Array.toArray_toList]); refine (ref_through T hT n hn s hs _).mono ?_; rintro e w2 ⟨rfl, hb⟩)
      | (go_at_call 17; refine (crc_add T hT g n hn s hs _ (by exact HX.out.2.1)).mono ?_; rintro e w3 ⟨rfl, q, rfl⟩))
    go_wp2
    go_ret
    exact ⟨rfl, (HX.out.2.2.drewN _).trans hb⟩
theorem walk_CrcTables {H : Type} {enc : TypeId × Value → H} {w : World} (v : Value) {d : DataW H} {p : List MemPlace} (hv : Value.okWide Try.prog w .any 0 25 v) (h : DataW.Trod enc Try.prog w 0 (fun _ => true) true 25 v d p)
    (a : Int) (wa : (Lit.int .u32 a).wf = true) (s : ByteArray) (hs : s.size ≤ maxLen) :
    Calls Try.prog 4 #[v, .int .u32 a, .string s] w fun e w' => e = .returned (.bool true) ∧ Gr w w' := by
  obtain ⟨T, hT, rfl⟩ := Crc.open_tab hv h
  exact walk_CrcTables_ T hT a wa s hs w
end Go.Proofs.Ytlkkgnidcgochaa
