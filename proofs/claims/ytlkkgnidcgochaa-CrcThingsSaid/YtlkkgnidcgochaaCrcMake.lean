/- Layer 1: the table is made. -/
import Derived.Test.YtlkkgnidcgochaaCrcRef
import Derived.Deep.WholeRow
namespace Go.Proofs.Ytlkkgnidcgochaa
open Go.RowKit
/-- a table's cells -/
def Crc.tab (T : Nat → Nat) : Array Value := ((List.range 256).map fun i => Value.int .u32 (T i : Nat)).toArray
theorem Crc.tab_size (T : Nat → Nat) : (Crc.tab T).size = 256 := by simp [Crc.tab]
theorem Crc.tab_get (T : Nat → Nat) {i : Nat} (h : i < 256) : (Crc.tab T)[i]? = some (.int .u32 (T i : Nat)) := by simp [Crc.tab, h]
theorem Crc.tab_one (T : Nat → Nat) : (Crc.tab T).all (·.oneCell') = true := by
  rw [Array.all_eq_true]
  intro i hi
  rw [Crc.tab_size] at hi
  simp [Crc.tab, Value.oneCell']
theorem Crc.tab_congr {T U : Nat → Nat} (h : ∀ i, i < 256 → T i = U i) : Crc.tab T = Crc.tab U := by
  unfold Crc.tab
  congr 1
  apply List.map_congr_left
  intro i hi
  rw [h i (by simpa using hi)]
/-- the first k made -/
def Crc.part (k : Nat) : Nat → Nat := fun i => if i < k then Crc.byt i else 0
theorem Crc.tab_set (k : Nat) : (Crc.tab (Crc.part k)).setIfInBounds k (.int .u32 (Crc.byt k : Nat)) = Crc.tab (Crc.part (k + 1)) := by
  apply Array.ext
  · simp [Crc.tab_size]
  · intro i h1 h2
    rw [Crc.tab_size] at h2
    have h3 : i < (Crc.tab (Crc.part k)).size := by rw [Crc.tab_size]; exact h2
    rw [Array.getElem_setIfInBounds h3]
    simp only [Crc.tab, List.getElem_toArray, List.getElem_map, List.getElem_range, Crc.part]
    by_cases e : k = i
    · subst e; simp
    · by_cases l : i < k
      · simp [e, l, show i < k + 1 by omega]
      · simp [e, l, show ¬ i < k + 1 by omega]
theorem Crc.tab_zero : Try.zeroCells25 = Crc.tab (Crc.part 0) := by kernel_rfl
theorem Crc.tab_full : Crc.tab (Crc.part 256) = Crc.tab Crc.byt := Crc.tab_congr fun i h => by unfold Crc.part; rw [if_pos h]
attribute [irreducible] Crc.tab
theorem sz25 (T : Nat → Nat) : (Try.prog.info? 25).map (·.size) = some (Crc.tab T).size := by rw [Crc.tab_size]; kernel_rfl

theorem Crc.low_eq (n : Nat) (h : n < 4294967296) : bits .and .u32 (n : Int) 1 = ((n % 2 : Nat) : Int) := by
  rw [show (1 : Int) = ((1 : Nat) : Int) from rfl, u32_and_nat n 1 h (by decide), nat_mask1]
theorem Crc.half_xor (n : Nat) (h : n < 4294967296) : bits .xor .u32 ((n : Int) / 2) 3988292384 = ((n / 2 ^^^ Crc.poly : Nat) : Int) := by
  rw [← Crc.xor_poly (n / 2) (by omega)]; rfl

set_option maxRecDepth 100000 in
set_option maxHeartbeats 400000 in
theorem crc_make (w : World) :
    Calls Try.prog 14 #[] w fun e w' => e = .returned (.agg (Crc.tab Crc.byt)) ∧ Gr w w' := by
  go_enter Try.func14, Try.ntmps14
  go_wp2
  go_loopw [5] (fun i wr => ∃ k : Nat, k ≤ 256 ∧ i = .int .i64 k ∧ wr = (w.alloc (.cells Try.zeroCells25 25)).alloc (.cells (Crc.tab (Crc.part k)) 25)) (fun i _ => 256 - (intOf i).toNat)
  case atStart => exact ⟨0, by omega, rfl, by rw [← Crc.tab_zero]⟩
  case round =>
    obtain ⟨k, hk, rfl, rfl⟩ := hrel
    by_cases hlt : k < 256
    · have hg := Crc.tab_get (Crc.part k) hlt
      have hTS := Lib.hid (Crc.tab_set k)
      go_wp2
      go_loop [3, 10] (fun x i => ∃ j : Nat, j ≤ 8 ∧ i = .int .i64 j ∧ x = .int .u32 (Crc.sts j k : Nat)) (fun _ i => 8 - (intOf i).toNat)
      case atStart => exact ⟨0, by omega, rfl, by rw [Crc.sts_zero_]⟩
      case round =>
        obtain ⟨j, hj, rfl, rfl⟩ := hrel
        have hl := Crc.sts_lt (k := j) (n := k) (by omega)
        by_cases hjt : j < 8
        · have hS : Hid (Crc.sts (j + 1) k = Crc.st (Crc.sts j k)) := Crc.sts_succ j k
          generalize Crc.sts j k = t at hl hS
          have hx := Lib.hid (Crc.half_xor t hl)
          by_cases h : t % 2 = 1
          · have hs : Hid (Crc.st t = (t / 2) ^^^ Crc.poly) := by unfold Hid Crc.st; rw [if_pos h]
            have ha : bits .and .u32 (t : Int) 1 = 1 := by rw [Crc.low_eq t hl, h]; rfl
            clear h
            go_wp2
            go_round
            case rel => exact ⟨j + 1, by omega, by go_num, by rw [hS.out, hs.out, hx.out]⟩
            case measure => simp [intOf]; omega
          · have hs : Hid (Crc.st t = t / 2) := by unfold Hid Crc.st; rw [if_neg h]
            have ha : bits .and .u32 (t : Int) 1 = 0 := by rw [Crc.low_eq t hl, show t % 2 = 0 by omega]; rfl
            clear h
            go_wp2
            go_round
            case rel => exact ⟨j + 1, by omega, by go_num, by rw [hS.out, hs.out]; rfl⟩
            case measure => simp [intOf]; omega
        · obtain rfl : j = 8 := by omega
          go_wp2
          go_roundw
          case rel => exact ⟨k + 1, by omega, by go_num, by rw [← hTS.out]; rfl⟩
          case measure => simp [intOf]; omega
    · obtain rfl : k = 256 := by omega
      have hz : Hid (Try.zeroCells25.size = (Crc.tab (Crc.part 256)).size) := by unfold Hid; rw [Crc.tab_zero, Crc.tab_size, Crc.tab_size]
      go_wp2
      refine wp_load_row 25 (.tmp 1) rfl (w.heap.size + 1) rfl 25 _ (0, 0) (.array 256 22) (heap_alloc2_new _ _ _) Try.underlying25 rfl (sz25 _) ?_
      go_step; go_step
      (refine wp_store_row 25 (.tmp 0) (.tmp 25) rfl w.heap.size (Crc.tab (Crc.part 256)) rfl rfl 25 Try.zeroCells25 (heap_alloc2_old _ _ _) (sz25 _) hz.out (Crc.tab_one _) ?_)
      go_wp2
      refine bodyPost_ret (results_cell_row rfl _ _ w.heap.size 25 (Crc.tab (Crc.part 256)) (0, 0) (.array 256 22) rfl (setRow_heap _ _ _ _ _ _ (heap_alloc2_old _ _ _)) Try.underlying25 rfl (sz25 _)) rfl ⟨by rw [Crc.tab_full], ?_⟩
      exact (((Gr.refl _).alloc _).alloc _).setRow (Nat.le_refl _) _
end Go.Proofs.Ytlkkgnidcgochaa
