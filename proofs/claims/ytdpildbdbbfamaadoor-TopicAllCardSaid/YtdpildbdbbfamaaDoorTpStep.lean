/- Layer 20: one part of a pattern. -/
import Derived.Deep.OwnRows
import Derived.Test.YtdpildbdbbfamaaDoorTpWords
namespace Go.Proofs.YtdpildbdbbfamaaDoor
open Go.RowKit Go.Shelf
set_option linter.unusedVariables false
set_option linter.unusedSimpArgs false
set_option maxRecDepth 100000
set_option maxHeartbeats 2000000
def blCell (b : Bool) : List Value := [.bool b]
theorem tp_info_bool : (Tryd.prog.info? 4).map (fun i => (i.zero, i.size, i.bytes)) = some (some (.bool false), 1, 1) := by kernel_rfl
/-- the row that is being made: so many of its places are right -/
def OutAt (w : World) (g : Nat) (f : Nat → Bool) (n k : Nat) : Prop := ∃ cur : Array Value, w.heap[g]? = some (.cells cur 4 (0, 0)) ∧ cur.size = n ∧ ∀ j, j < k → cur[j]? = some (.bool (f j))
theorem OutAt.gr {w w' : World} {g : Nat} {f : Nat → Bool} {n k : Nat} (h : OutAt w g f n k) (hg : Gr w w') : OutAt w' g f n k := by
  obtain ⟨cur, h1, h2, h3⟩ := h
  exact ⟨cur, (hg.block (Array.getElem?_eq_some_iff.1 h1).1).trans h1, h2, h3⟩
theorem OutAt.set {w : World} {g : Nat} {f : Nat → Bool} {n k : Nat} (h : OutAt w g f n k) (hk : k < n) {v : Bool} (hv : v = f k) : OutAt (w.setCell ⟨g, k, none⟩ (.bool v)) g f n (k + 1) := by
  obtain ⟨cur, h1, h2, h3⟩ := h
  refine ⟨_, heap_setCell_same w g k cur _ (.bool v) h1, by simp [h2], fun j hj => ?_⟩
  by_cases he : j = k
  · subst he
    rw [Array.getElem?_setIfInBounds_self_of_lt (by omega), hv]
  · rw [Array.getElem?_setIfInBounds_ne (Ne.symm he)]
    exact h3 j (by omega)
theorem OutAt.cell {w : World} {g : Nat} {f : Nat → Bool} {n k : Nat} (h : OutAt w g f n k) (j : Nat) (hj : j < k) : w.cell? ⟨g, j, none⟩ = some (.bool (f j)) := by
  obtain ⟨cur, h1, h2, h3⟩ := h
  exact sp_cell h1 j _ (h3 j hj)
theorem OutAt.any {w : World} {g : Nat} {f : Nat → Bool} {n k : Nat} (h : OutAt w g f n k) (j : Nat) (hj : j < n) : (∃ c, w.cell? ⟨g, j, none⟩ = some c) ∧ w.frozen? ⟨g, j, none⟩ = false := by
  obtain ⟨cur, h1, h2, h3⟩ := h
  refine ⟨⟨cur[j]'(by omega), sp_cell h1 j _ (Array.getElem?_eq_getElem (by omega))⟩, frozen_of_row _ _ j _ _ h1⟩
theorem OutAt.slice {w : World} {g : Nat} {f : Nat → Bool} {n : Nat} (h : OutAt w g f n n) : SliceAt w (some ⟨g, 0, none⟩) 1 blCell ((List.range n).map f) := by
  refine .inr ⟨g, 0, rfl, fun i x hx j u hu => ?_⟩
  rw [List.getElem?_map] at hx
  by_cases hi : i < n
  · rw [List.getElem?_range hi] at hx
    have hx2 : f i = x := Option.some.inj hx
    cases j with
    | zero =>
      have hu2 : Value.bool x = u := Option.some.inj hu
      rw [← hu2, ← hx2]
      simpa using h.cell i hi
    | succ j => cases hu
  · rw [List.getElem?_eq_none (by simp; omega)] at hx
    cases hx
theorem OutAt.lt {w : World} {g : Nat} {f : Nat → Bool} {n k : Nat} (h : OutAt w g f n k) : g < w.heap.size := by
  obtain ⟨cur, h1, h2, h3⟩ := h
  exact (Array.getElem?_eq_some_iff.1 h1).1
theorem hash_list (p : ByteArray) : isW p hashW = (p.toList == [35]) := by
  unfold isW hashW
  rw [ByteArray.toList_eq ⟨#[35]⟩]
theorem star_list (p : ByteArray) : isW p starW = (p.toList == [42]) := by
  unfold isW starW
  rw [ByteArray.toList_eq ⟨#[42]⟩]
theorem tp_step (A A2 : Option Addr) (c c2 : Nat) (bs : List Bool) (ws : List ByteArray) (hb : bs.length = ws.length + 1) (hl : ws.length ≤ 4001) (p : ByteArray) (w : World) (h1 : SliceAt w A 1 blCell bs) (h2 : SliceAt w A2 1 strCell ws) : Calls Tryd.prog 28 #[.slice A bs.length c, .string p, .slice A2 ws.length c2] w fun r w' => r = .returned (.slice (some ⟨w.heap.size, 0, none⟩) (ws.length + 1) (ws.length + 1)) ∧ SliceAt w' (some ⟨w.heap.size, 0, none⟩) 1 blCell ((List.range (ws.length + 1)).map (oA (fun j => bs[j]?.getD false) p ws)) ∧ Gr w w' := by
  have hw : IntKind.i64.wrap ((ws.length : Int) + 1) = (ws.length : Int) + 1 := by rw [IntKind.wrap_i64]; omega
  have hmk : ∀ w1, (Instr.makeSlice 39 (.int .i64 ((ws.length : Int) + 1)) (.int .i64 ((ws.length : Int) + 1))).run Tryd.prog w1 = .ok (.slice (some ⟨w1.heap.size, 0, none⟩) (ws.length + 1) (ws.length + 1)) (w1.alloc (.cells (madeCells #[.bool false] (ws.length + 1)) 4)) := fun w1 => by
    have h := run_make_row' (P := Tryd.prog) 39 4 (.bool false) 1 Tryd.underlying39 tp_info_bool rfl .i64 .i64 (ws.length + 1) (by omega) (by omega) w1
    rw [Int.natCast_add] at h
    exact h
  have HA := Lib.hid h1
  have HW := Lib.hid h2
  have HBL := Lib.hid hb
  clear h1 h2 hb
  have hO : OutAt (w.alloc (.cells (madeCells #[.bool false] (ws.length + 1)) 4)) w.heap.size (oA (fun j => bs[j]?.getD false) p ws) (ws.length + 1) 0 := ⟨_, heap_alloc_last w _, size_madeCells _ _, fun j hj => by omega⟩
  have HO : Hid (OutAt (w.alloc (.cells (madeCells #[.bool false] (ws.length + 1)) 4)) w.heap.size (oA (fun j => bs[j]?.getD false) p ws) (ws.length + 1) 0 ∧ Gr w (w.alloc (.cells (madeCells #[.bool false] (ws.length + 1)) 4))) := ⟨hO, (Gr.refl w).alloc _⟩
  clear hO
  go_enter Tryd.func28, Tryd.ntmps28
  go_wp2
  generalize w.alloc (.cells (madeCells #[.bool false] (ws.length + 1)) 4) = W at *
  generalize hgw : w.heap.size = g at *
  have HGW := Lib.hid hgw
  clear hgw hmk
  go_loopw [15] (fun i wr => ∃ k : Nat, k ≤ ws.length + 1 ∧ i = .int .i64 (k : Nat) ∧ Hid (OutAt wr g (oA (fun j => bs[j]?.getD false) p ws) (ws.length + 1) k ∧ Gr w wr)) (fun i _ => ws.length + 1 - (intOf i).toNat)
  case atStart => exact ⟨0, by omega, rfl, HO.out⟩
  case round =>
    obtain ⟨k, hk, rfl, HR⟩ := hrel
    clear HO
    by_cases hlt : k < ws.length + 1
    · have hbk : bs[k]? = some (bs[k]'(by have := HBL.out; omega)) := List.getElem?_eq_getElem (by have := HBL.out; omega)
      generalize bs[k]'(by have := HBL.out; omega) = bk at *
      have hlt' : (k : Int) < ((ws.length : Nat) : Int) + 1 := by omega
      rcases HA.out with h0 | ⟨aA, offA, rfl, hcA⟩
      · exfalso; rw [h0] at hbk; simp at hbk
      have a0 := HR.out.2.cells (hcA k _ hbk 0 _ rfl)
      simp only [Nat.add_zero, Nat.mul_one] at a0
      obtain ⟨⟨cc, hcc⟩, hfr⟩ := HR.out.1.any k hlt
      have hkb : ((k : Nat) : Int) < ((bs.length : Nat) : Int) := by have := HBL.out; omega
      cases hp : isW p hashW with
      | true =>
        have hp1 : (p.toList == [35]) = true := by rw [← hash_list]; exact hp
        cases k with
        | zero =>
          simp only [Nat.add_zero] at a0
          cases bk with
          | true =>
            have hf : true = oA (fun j => bs[j]?.getD false) p ws 0 := by simp only [oA, hp, hbk]; rfl
            have HN : Hid (OutAt (wr.setCell ⟨g, 0, none⟩ (.bool (true))) g (oA (fun j => bs[j]?.getD false) p ws) (ws.length + 1) (0 + 1) ∧ Gr w (wr.setCell ⟨g, 0, none⟩ (.bool (true)))) := ⟨HR.out.1.set hlt hf, ((Ch.refl g wr).setCell (0) _).gr HR.out.2 (by have := HGW.out; omega)⟩
            clear hf hp hbk hcA
            go_wp2
            go_roundw
            case rel => exact ⟨1, by omega, by go_num, HN.out⟩
            case measure => (simp [intOf]; try omega)
          | false =>
            have hf : false = oA (fun j => bs[j]?.getD false) p ws 0 := by simp only [oA, hp, hbk]; rfl
            have HN : Hid (OutAt (wr.setCell ⟨g, 0, none⟩ (.bool (false))) g (oA (fun j => bs[j]?.getD false) p ws) (ws.length + 1) (0 + 1) ∧ Gr w (wr.setCell ⟨g, 0, none⟩ (.bool (false)))) := ⟨HR.out.1.set hlt hf, ((Ch.refl g wr).setCell (0) _).gr HR.out.2 (by have := HGW.out; omega)⟩
            clear hf hp hbk hcA
            go_wp2
            go_roundw
            case rel => exact ⟨1, by omega, by go_num, HN.out⟩
            case measure => (simp [intOf]; try omega)
        | succ k =>
          have hbk2 : bs[k]? = some (bs[k]'(by have := HBL.out; omega)) := List.getElem?_eq_getElem (by have := HBL.out; omega)
          generalize bs[k]'(by have := HBL.out; omega) = bp at *
          have a1 := HR.out.2.cells (hcA k _ hbk2 0 _ rfl)
          simp only [Nat.add_zero, Nat.mul_one] at a1
          have o1 := HR.out.1.cell k (Nat.lt_succ_self k)
          have hkb2 : ((k : Nat) : Int) < ((bs.length : Nat) : Int) := by have := HBL.out; omega
          have hwk : IntKind.i64.wrap ((k : Nat) : Int) = ((k : Nat) : Int) := by rw [IntKind.wrap_i64]; omega
          have hkl : k < ws.length := by omega
          obtain ⟨ov, hov⟩ : ∃ ov, ov = oA (fun j => bs[j]?.getD false) p ws k := ⟨_, rfl⟩
          rw [← hov] at o1
          cases bk with
          | true =>
            have hf : true = oA (fun j => bs[j]?.getD false) p ws (k + 1) := by simp only [oA, hp, hbk, if_true, ← hov]; rfl
            have HN : Hid (OutAt (wr.setCell ⟨g, k + 1, none⟩ (.bool (true))) g (oA (fun j => bs[j]?.getD false) p ws) (ws.length + 1) (k + 1 + 1) ∧ Gr w (wr.setCell ⟨g, k + 1, none⟩ (.bool (true)))) := ⟨HR.out.1.set hlt hf, ((Ch.refl g wr).setCell (k + 1) _).gr HR.out.2 (by have := HGW.out; omega)⟩
            clear hf hp hbk hcA hbk2 hov
            go_wp2
            go_roundw
            case rel => exact ⟨k + 1 + 1, by omega, by go_num, HN.out⟩
            case measure => (simp [intOf]; try omega)
          | false =>
            have hf : ov = oA (fun j => bs[j]?.getD false) p ws (k + 1) := by simp only [oA, hp, hbk, if_true, ← hov]; rfl
            have HN : Hid (OutAt (wr.setCell ⟨g, k + 1, none⟩ (.bool (ov))) g (oA (fun j => bs[j]?.getD false) p ws) (ws.length + 1) (k + 1 + 1) ∧ Gr w (wr.setCell ⟨g, k + 1, none⟩ (.bool (ov)))) := ⟨HR.out.1.set hlt hf, ((Ch.refl g wr).setCell (k + 1) _).gr HR.out.2 (by have := HGW.out; omega)⟩
            clear hf hp hbk hcA hbk2 hov
            go_wp2
            go_roundw
            case rel => exact ⟨k + 1 + 1, by omega, by go_num, HN.out⟩
            case measure => (simp [intOf]; try omega)
      | false =>
        have hp1 : (p.toList == [35]) = false := by rw [← hash_list]; exact hp
        cases hs : isW p starW with
        | true =>
          have hs1 : (p.toList == [42]) = true := by rw [← star_list]; exact hs
          cases k with
          | zero =>
            simp only [Nat.add_zero] at a0
            have hf : false = oA (fun j => bs[j]?.getD false) p ws 0 := by simp only [oA, hp]; rfl
            have HN : Hid (OutAt (wr.setCell ⟨g, 0, none⟩ (.bool false)) g (oA (fun j => bs[j]?.getD false) p ws) (ws.length + 1) (0 + 1) ∧ Gr w (wr.setCell ⟨g, 0, none⟩ (.bool false))) := ⟨HR.out.1.set hlt hf, ((Ch.refl g wr).setCell 0 _).gr HR.out.2 (by have := HGW.out; omega)⟩
            clear hf hp hbk hcA hs
            go_wp2
            go_roundw
            case rel => exact ⟨1, by omega, by go_num, HN.out⟩
            case measure => (simp [intOf]; try omega)
          | succ k =>
            have hbk2 : bs[k]? = some (bs[k]'(by have := HBL.out; omega)) := List.getElem?_eq_getElem (by have := HBL.out; omega)
            generalize bs[k]'(by have := HBL.out; omega) = bp at *
            have a1 := HR.out.2.cells (hcA k _ hbk2 0 _ rfl)
            simp only [Nat.add_zero, Nat.mul_one] at a1
            have o1 := HR.out.1.cell k (Nat.lt_succ_self k)
            have hkb2 : ((k : Nat) : Int) < ((bs.length : Nat) : Int) := by have := HBL.out; omega
            have hwk : IntKind.i64.wrap ((k : Nat) : Int) = ((k : Nat) : Int) := by rw [IntKind.wrap_i64]; omega
            have hkl : k < ws.length := by omega
            have hf : bp = oA (fun j => bs[j]?.getD false) p ws (k + 1) := by simp only [oA, hp, hbk2, hs, Bool.false_eq_true, if_false, Bool.true_or, Bool.and_true]; rfl
            have HN : Hid (OutAt (wr.setCell ⟨g, k + 1, none⟩ (.bool (bp))) g (oA (fun j => bs[j]?.getD false) p ws) (ws.length + 1) (k + 1 + 1) ∧ Gr w (wr.setCell ⟨g, k + 1, none⟩ (.bool (bp)))) := ⟨HR.out.1.set hlt hf, ((Ch.refl g wr).setCell (k + 1) _).gr HR.out.2 (by have := HGW.out; omega)⟩
            clear hf hp hbk hcA hbk2 hs
            go_wp2
            go_roundw
            case rel => exact ⟨k + 1 + 1, by omega, by go_num, HN.out⟩
            case measure => (simp [intOf]; try omega)
        | false =>
          have hs1 : (p.toList == [42]) = false := by rw [← star_list]; exact hs
          cases k with
          | zero =>
            simp only [Nat.add_zero] at a0
            have hf : false = oA (fun j => bs[j]?.getD false) p ws 0 := by simp only [oA, hp]; rfl
            have HN : Hid (OutAt (wr.setCell ⟨g, 0, none⟩ (.bool false)) g (oA (fun j => bs[j]?.getD false) p ws) (ws.length + 1) (0 + 1) ∧ Gr w (wr.setCell ⟨g, 0, none⟩ (.bool false))) := ⟨HR.out.1.set hlt hf, ((Ch.refl g wr).setCell 0 _).gr HR.out.2 (by have := HGW.out; omega)⟩
            clear hf hp hbk hcA hs
            go_wp2
            go_roundw
            case rel => exact ⟨1, by omega, by go_num, HN.out⟩
            case measure => (simp [intOf]; try omega)
          | succ k =>
            have hbk2 : bs[k]? = some (bs[k]'(by have := HBL.out; omega)) := List.getElem?_eq_getElem (by have := HBL.out; omega)
            generalize bs[k]'(by have := HBL.out; omega) = bp at *
            have a1 := HR.out.2.cells (hcA k _ hbk2 0 _ rfl)
            simp only [Nat.add_zero, Nat.mul_one] at a1
            have o1 := HR.out.1.cell k (Nat.lt_succ_self k)
            have hkb2 : ((k : Nat) : Int) < ((bs.length : Nat) : Int) := by have := HBL.out; omega
            have hwk : IntKind.i64.wrap ((k : Nat) : Int) = ((k : Nat) : Int) := by rw [IntKind.wrap_i64]; omega
            have hkl : k < ws.length := by omega
            have hwk2 : ws[k]? = some (ws[k]'hkl) := List.getElem?_eq_getElem hkl
            generalize ws[k]'hkl = wk at *
            rcases HW.out with h0 | ⟨aW, offW, rfl, hcW⟩
            · exfalso; rw [h0] at hkl; simp at hkl
            have w1 := HR.out.2.cells (hcW k _ hwk2 0 _ rfl)
            simp only [Nat.add_zero, Nat.mul_one] at w1
            cases bp with
            | true =>
              have hf : (wk.toList == p.toList) = oA (fun j => bs[j]?.getD false) p ws (k + 1) := by simp only [oA, hp, hbk2, hwk2, hs, Bool.false_eq_true, if_false, Bool.false_or]; rfl
              have HN : Hid (OutAt (wr.setCell ⟨g, k + 1, none⟩ (.bool ((wk.toList == p.toList)))) g (oA (fun j => bs[j]?.getD false) p ws) (ws.length + 1) (k + 1 + 1) ∧ Gr w (wr.setCell ⟨g, k + 1, none⟩ (.bool ((wk.toList == p.toList))))) := ⟨HR.out.1.set hlt hf, ((Ch.refl g wr).setCell (k + 1) _).gr HR.out.2 (by have := HGW.out; omega)⟩
              clear hf hp hbk hcA hbk2 hs hwk2 hcW
              go_wp2
              go_roundw
              case rel => exact ⟨k + 1 + 1, by omega, by go_num, HN.out⟩
              case measure => (simp [intOf]; try omega)
            | false =>
              have hf : false = oA (fun j => bs[j]?.getD false) p ws (k + 1) := by simp only [oA, hp, hbk2, hwk2, hs, Bool.false_eq_true, if_false, Bool.false_or]; rfl
              have HN : Hid (OutAt (wr.setCell ⟨g, k + 1, none⟩ (.bool (false))) g (oA (fun j => bs[j]?.getD false) p ws) (ws.length + 1) (k + 1 + 1) ∧ Gr w (wr.setCell ⟨g, k + 1, none⟩ (.bool (false)))) := ⟨HR.out.1.set hlt hf, ((Ch.refl g wr).setCell (k + 1) _).gr HR.out.2 (by have := HGW.out; omega)⟩
              clear hf hp hbk hcA hbk2 hs hwk2 hcW
              go_wp2
              go_roundw
              case rel => exact ⟨k + 1 + 1, by omega, by go_num, HN.out⟩
              case measure => (simp [intOf]; try omega)
    · obtain rfl : k = ws.length + 1 := by omega
      have HS : Hid (SliceAt wr (some ⟨g, 0, none⟩) 1 blCell ((List.range (ws.length + 1)).map (oA (fun j => bs[j]?.getD false) p ws)) ∧ Gr w wr) := ⟨HR.out.1.slice, HR.out.2⟩
      go_wp2
      go_ret
      rw [HGW.out]
      exact ⟨rfl, HS.out⟩
end Go.Proofs.YtdpildbdbbfamaaDoor
