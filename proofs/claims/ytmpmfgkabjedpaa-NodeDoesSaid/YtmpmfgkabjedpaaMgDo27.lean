/- Layer 10: the node that a branch's frame is (printed by ndof_gen.py). -/
import Derived.Test.YtmpmfgkabjedpaaMgDo02
import Derived.Test.YtmpmfgkabjedpaaMgDo10
import Derived.Test.YtmpmfgkabjedpaaMgDo21
import Derived.Test.YtmpmfgkabjedpaaMgDo23
import Derived.Test.YtmpmfgkabjedpaaMgDo26
namespace Go.Proofs.Ytmpmfgkabjedpaa
open Go.RowKit
set_option linter.unusedVariables false
set_option linter.unusedSimpArgs false
set_option maxRecDepth 100000
set_option maxHeartbeats 2000000
open Classical in
noncomputable def ofKe (D : List UInt8) (n : Nat) : Int := if (kiAns D n).2 = 0 ∧ ¬ nsRight false ((kiAns D n).1.map ceOf) then 4 else (kiAns D n).2
open Classical in
noncomputable def ofKz (D : List UInt8) (n : Nat) : List Ce := if (kiAns D n).2 = 0 ∧ ¬ nsRight false ((kiAns D n).1.map ceOf) then [] else (kiAns D n).1.map ceOf
def ofP (xs : List Ki) (be : Int) (zz : List Ce) (ze : Int) : Prop := (be ≠ 0 → zz = xs.map ceOf ∧ ze = be) ∧ (be = 0 → ((xs ≠ [] ∧ hdK0 xs = .empty ∧ ¬ kiLow xs) → zz = xs.map ceOf ∧ ze = 0) ∧ (¬ (xs ≠ [] ∧ hdK0 xs = .empty ∧ ¬ kiLow xs) → zz = [] ∧ ze = 4))
open Classical in
theorem ofP_of (xs : List Ki) (be : Int) : ofP xs be (if be = 0 ∧ ¬ nsRight false (xs.map ceOf) then [] else xs.map ceOf) (if be = 0 ∧ ¬ nsRight false (xs.map ceOf) then 4 else be) := by
  refine ⟨fun h => ⟨if_neg (fun k => h k.1), if_neg (fun k => h k.1)⟩, fun h => ⟨fun hr => ?_, fun hr => ?_⟩⟩
  · have h2 := (nsRight_kids xs).2 hr
    exact ⟨if_neg (fun k => k.2 h2), (if_neg (fun k => k.2 h2)).trans h⟩
  · have h2 : ¬ nsRight false (xs.map ceOf) := fun k => hr ((nsRight_kids xs).1 k)
    exact ⟨if_pos ⟨h, h2⟩, if_pos ⟨h, h2⟩⟩
theorem ki_of (n id tx : Nat) (hn : n < 65536) (D : List UInt8) (hD : D.length ≤ 8000) (w : World) :
    Calls Try.prog 19 #[.agg #[.int .u8 3, .int .u16 (n : Nat), .int .u32 (id : Nat), .int .u64 (tx : Nat), .string (B D)]] w fun r w' => ∃ b c, r = .returned (.tuple #[.agg #[.bool false, b, c], .int .i64 (ofKe D n)]) ∧ NsAt w' (.agg #[.bool false, b, c]) false (ofKz D n) ∧ Gr w w' := by
  have cB := fun w1 => Lib.hid (ki_read D hD n (by unfold I64; omega) w1)
  have hcs := rdAns_cases kiB kiCan keyBad (fun x : Ki => x.1) D (n : Int)
  change (∃ l : List Ki, kiAns D n = (l, 0) ∧ _) ∨ (∃ e, e ≠ 0 ∧ kiAns D n = ([], e)) at hcs
  have hcs2 : ((kiAns D n).2 ≠ 0 → (kiAns D n).1 = []) ∧ (kiAns D n).1.length ≤ 4000 := by
    rcases hcs with ⟨l, h, h0, hL, _⟩ | ⟨e, he, h⟩
    · rw [h]; refine ⟨fun k => absurd rfl k, ?_⟩
      have := hL.len
      have h1 := hL.1
      simp only [Int.toNat_natCast] at *
      show l.length ≤ 4000
      omega
    · rw [h]; exact ⟨fun _ => rfl, by simp⟩
  clear hcs
  obtain ⟨hcs, hlen⟩ := hcs2
  have hz0 : ofP (kiAns D n).1 (kiAns D n).2 (ofKz D n) (ofKe D n) := by unfold ofKz ofKe; exact ofP_of _ _
  generalize ofKz D n = zz at *
  generalize ofKe D n = ze at *
  generalize kiAns D n = dd at *
  obtain ⟨xs, be⟩ := dd
  have HZ := Lib.hid hz0
  clear hz0
  simp only at cB hcs hlen
  have hw64 : IntKind.i64.wrap ((n : Nat) : Int) = ((n : Nat) : Int) := by rw [IntKind.wrap_i64]; omega
  obtain ⟨r0, r1, r2⟩ := heap_alloc3 w (.cells #[.int .u8 3, .int .u16 (n : Nat), .int .u32 (id : Nat), .int .u64 (tx : Nat), .string (B D)] 45) (.cells #[.bool false, .slice none 0 0, .slice none 0 0] 27) (.cells #[.bool false, .slice none 0 0, .slice none 0 0] 27)
  have HU : Hid (Gr w (((w.alloc (.cells #[.int .u8 3, .int .u16 (n : Nat), .int .u32 (id : Nat), .int .u64 (tx : Nat), .string (B D)] 45)).alloc (.cells #[.bool false, .slice none 0 0, .slice none 0 0] 27)).alloc (.cells #[.bool false, .slice none 0 0, .slice none 0 0] 27)) ∧ (((w.alloc (.cells #[.int .u8 3, .int .u16 (n : Nat), .int .u32 (id : Nat), .int .u64 (tx : Nat), .string (B D)] 45)).alloc (.cells #[.bool false, .slice none 0 0, .slice none 0 0] 27)).alloc (.cells #[.bool false, .slice none 0 0, .slice none 0 0] 27)).heap[w.heap.size]? = some (.cells #[.int .u8 3, .int .u16 (n : Nat), .int .u32 (id : Nat), .int .u64 (tx : Nat), .string (B D)] 45 (0, 0)) ∧ (((w.alloc (.cells #[.int .u8 3, .int .u16 (n : Nat), .int .u32 (id : Nat), .int .u64 (tx : Nat), .string (B D)] 45)).alloc (.cells #[.bool false, .slice none 0 0, .slice none 0 0] 27)).alloc (.cells #[.bool false, .slice none 0 0, .slice none 0 0] 27)).heap[w.heap.size + 1]? = some (.cells #[.bool false, .slice none 0 0, .slice none 0 0] 27 (0, 0)) ∧ (((w.alloc (.cells #[.int .u8 3, .int .u16 (n : Nat), .int .u32 (id : Nat), .int .u64 (tx : Nat), .string (B D)] 45)).alloc (.cells #[.bool false, .slice none 0 0, .slice none 0 0] 27)).alloc (.cells #[.bool false, .slice none 0 0, .slice none 0 0] 27)).heap[w.heap.size + 1 + 1]? = some (.cells #[.bool false, .slice none 0 0, .slice none 0 0] 27 (0, 0)) ∧ w.heap.size + 2 < (((w.alloc (.cells #[.int .u8 3, .int .u16 (n : Nat), .int .u32 (id : Nat), .int .u64 (tx : Nat), .string (B D)] 45)).alloc (.cells #[.bool false, .slice none 0 0, .slice none 0 0] 27)).alloc (.cells #[.bool false, .slice none 0 0, .slice none 0 0] 27)).heap.size) := by
    exact ⟨(((Gr.refl w).alloc _).alloc _).alloc _, r0, r1, r2, by simp only [alloc_size]; omega⟩
  clear r0 r1 r2
  go_enter Try.func19, Try.ntmps19
  go_wp2
  generalize (((w.alloc (.cells #[.int .u8 3, .int .u16 (n : Nat), .int .u32 (id : Nat), .int .u64 (tx : Nat), .string (B D)] 45)).alloc (.cells #[.bool false, .slice none 0 0, .slice none 0 0] 27)).alloc (.cells #[.bool false, .slice none 0 0, .slice none 0 0] 27)) = U at *
  generalize hgg : w.heap.size = g at *
  have HG0 := Lib.hid hgg
  clear hgg
  have f1 := row_cell HU.out.2.1 1 _ rfl
  have f4 := row_cell HU.out.2.1 4 _ rfl
  have HQ : Hid (U.cell? ⟨g, 1, none⟩ = some (.int .u16 (n : Nat)) ∧ U.cell? ⟨g, 4, none⟩ = some (.string (B D))) := ⟨f1, f4⟩
  have hne : g ≠ g + 1 + 1 := by omega
  have HUd := Lib.hid HU.out.1.drew
  go_region_held3 (fun w' => w'.cell? ⟨g, 1, none⟩ = some (.int .u16 (n : Nat)) ∧ w'.cell? ⟨g, 4, none⟩ = some (.string (B D))) (first | exact HQ.out | (with_reducible exact ⟨((Ch.refl (g + 1 + 1) _).setCell 2 _).cell hne HQ.out.1, ((Ch.refl (g + 1 + 1) _).setCell 2 _).cell hne HQ.out.2⟩) | assumption)
    (first
      | (go_at_call 40; refine (sl_kids _).mono ?_; rintro r v2 ⟨rfl, hg⟩; have HG2 := Lib.hid ((Gr.refl U).drew.trans hg); have HQ : Hid (v2.cell? ⟨g, 1, none⟩ = some (.int .u16 (n : Nat)) ∧ v2.cell? ⟨g, 4, none⟩ = some (.string (B D))) := ⟨HG2.out.cells HQ.out.1, HG2.out.cells HQ.out.2⟩; clear hg)
      | (go_at_call 56; refine (cB _).out.mono ?_; clear cB; rintro r v3 ⟨A, cap, rfl, ho, hg⟩; have HO := Lib.hid ho; have HG3 := Lib.hid (HG2.out.trans hg); have HQ : Hid (v3.cell? ⟨g, 1, none⟩ = some (.int .u16 (n : Nat)) ∧ v3.cell? ⟨g, 4, none⟩ = some (.string (B D))) := ⟨hg.cells HQ.out.1, hg.cells HQ.out.2⟩; have hf3 := (HG3.out.block (lt_of_row HU.out.2.2.2.1)).trans HU.out.2.2.2.1; have c1 := row_cell hf3 2 _ rfl; have z1 := frozen_of_row _ _ 2 _ _ hf3; have HF3 := Lib.hid hf3; have HB2 := Lib.hid (show g + 1 + 1 < v2.heap.size from lt_of_row ((HG2.out.block (lt_of_row HU.out.2.2.2.1)).trans HU.out.2.2.2.1)); clear hg hf3 ho))
  have HU4 : Hid (Gr w (v3.setCell ⟨g + 1 + 1, 2, none⟩ (.slice A xs.length cap)) ∧ (v3.setCell ⟨g + 1 + 1, 2, none⟩ (.slice A xs.length cap)).heap[g + 1]? = some (.cells #[.bool false, .slice none 0 0, .slice none 0 0] 27 (0, 0)) ∧ (v3.setCell ⟨g + 1 + 1, 2, none⟩ (.slice A xs.length cap)).heap[g + 1 + 1]? = some (.cells #[.bool false, .slice none 0 0, .slice A xs.length cap] 27 (0, 0)) ∧ Own (v3.setCell ⟨g + 1 + 1, 2, none⟩ (.slice A xs.length cap)) v2.heap.size 61 2 kiCell A cap xs ∧ g + 1 + 1 < v2.heap.size) := by
    have hgw : w.heap.size ≤ g + 1 + 1 := by rw [HG0.out]; omega
    have hno : ownOf A ≠ some (g + 1 + 1) := by
      intro he
      have h1 := (HO.out.lt he).2
      have h2 := HB2.out
      omega
    exact ⟨((Ch.refl (g + 1 + 1) v3).setCell 2 _).gr (HU.out.1.trans HG3.out) hgw, (heap_setCell_other _ _ _ _ (by show g + 1 ≠ g + 1 + 1; omega)).trans ((HG3.out.block (lt_of_row HU.out.2.2.1)).trans HU.out.2.2.1), heap_setCell_same _ _ 2 _ _ _ HF3.out, HO.out.ch ((Ch.refl (g + 1 + 1) v3).setCell 2 _) hno, HB2.out⟩
  clear HU HG2 HG3 HF3 HQ c1 z1 HUd HO HB2 f1 f4
  generalize v3.setCell ⟨g + 1 + 1, 2, none⟩ (.slice A xs.length cap) = U4 at *
  generalize v2.heap.size = bs at *
  have hgw : w.heap.size ≤ g + 1 := by rw [HG0.out]; omega
  have hno : ownOf A ≠ some (g + 1) := by
    intro he
    have h1 := (HU4.out.2.2.2.1.lt he).2
    have h2 := HU4.out.2.2.2.2
    omega
  have HNO := Lib.hid hno
  clear hno
  by_cases he : be = 0
  · subst he
    by_cases hR : (xs ≠ [] ∧ hdK0 xs = .empty ∧ ¬ kiLow xs)
    · have cR := fun w1 (hg : Gr U4 w1) => Lib.hid (nd_rightK (.agg #[.bool false, .slice none 0 0, .slice A xs.length cap]) xs w1 ⟨A, cap, rfl, (HU4.out.2.2.2.1.gr hg).slice kiCell_len, HU4.out.2.2.2.1.cap_le.1, HU4.out.2.2.2.1.cap_le.2⟩ true ⟨fun _ => hR, fun _ => rfl⟩)
      have HRW : Hid (Gr U4 U4) := Gr.refl _
      have HE := Lib.hid ((HZ.out.2 rfl).1 hR)
      clear hR
      have HE1 := HE.out.1
      have HE2 := HE.out.2
      clear HE
      subst HE1 HE2
      have n0 := row_cell HU4.out.2.2.1 0 _ rfl
      have n1 := row_cell HU4.out.2.2.1 1 _ rfl
      have n2 := row_cell HU4.out.2.2.1 2 _ rfl
      have y0 := row_cell HU4.out.2.1 0 _ rfl
      have fy0 := frozen_of_row _ _ 0 _ _ HU4.out.2.1
      have y1 := row_cell HU4.out.2.1 1 _ rfl
      have fy1 := frozen_of_row _ _ 1 _ _ HU4.out.2.1
      have y2 := row_cell HU4.out.2.1 2 _ rfl
      have fy2 := frozen_of_row _ _ 2 _ _ HU4.out.2.1
      go_wp2_with (go_at_call 50; refine (cR _ HRW.out).out.mono ?_; clear cR; rintro r v5 ⟨rfl, hg⟩; have hy := (hg.block (lt_of_row HU4.out.2.1)).trans HU4.out.2.1; have HY := Lib.hid (And.intro (HU4.out.1.trans hg) (And.intro hy (HU4.out.2.2.2.1.gr hg))); have y0 := row_cell hy 0 _ rfl; have fy0 := frozen_of_row _ _ 0 _ _ hy; have y1 := row_cell hy 1 _ rfl; have fy1 := frozen_of_row _ _ 1 _ _ hy; have y2 := row_cell hy 2 _ rfl; have fy2 := frozen_of_row _ _ 2 _ _ hy; have hn4 := (hg.block (lt_of_row HU4.out.2.2.1)).trans HU4.out.2.2.1; have n0 := row_cell hn4 0 _ rfl; have n1 := row_cell hn4 1 _ rfl; have n2 := row_cell hn4 2 _ rfl; clear hg hy hn4)
      refine bodyPost_ret (results_cell_tmp_row rfl _ _ (g + 1) _ #[.bool false, .slice none 0 0, .slice A xs.length cap] (0, 0) (.struct _) rfl (heap_setCell_same _ _ 2 _ _ (.slice A xs.length cap) (heap_setCell_same _ _ 1 _ _ (.slice none 0 0) (heap_setCell_same _ _ 0 _ _ (.bool false) HY.out.2.1))) Try.underlying27 rfl (by kernel_rfl)) rfl ⟨.slice none 0 0, .slice A xs.length cap, rfl, .inr ⟨rfl, xs, rfl, A, cap, rfl, (HY.out.2.2.ch ((((Ch.refl (g + 1) v5).setCell 0 (.bool false)).setCell 1 (.slice none 0 0)).setCell 2 (.slice A xs.length cap)) HNO.out).slice kiCell_len, HY.out.2.2.cap_le.1, HY.out.2.2.cap_le.2⟩, ((((Ch.refl (g + 1) v5).setCell 0 (.bool false)).setCell 1 (.slice none 0 0)).setCell 2 (.slice A xs.length cap)).gr HY.out.1 hgw⟩
    · have cR := fun w1 (hg : Gr U4 w1) => Lib.hid (nd_rightK (.agg #[.bool false, .slice none 0 0, .slice A xs.length cap]) xs w1 ⟨A, cap, rfl, (HU4.out.2.2.2.1.gr hg).slice kiCell_len, HU4.out.2.2.2.1.cap_le.1, HU4.out.2.2.2.1.cap_le.2⟩ false ⟨fun h => (by cases h), fun h => absurd h hR⟩)
      have HRW : Hid (Gr U4 U4) := Gr.refl _
      have HE := Lib.hid ((HZ.out.2 rfl).2 hR)
      clear hR
      have HE1 := HE.out.1
      have HE2 := HE.out.2
      clear HE
      subst HE1 HE2
      have n0 := row_cell HU4.out.2.2.1 0 _ rfl
      have n1 := row_cell HU4.out.2.2.1 1 _ rfl
      have n2 := row_cell HU4.out.2.2.1 2 _ rfl
      have y0 := row_cell HU4.out.2.1 0 _ rfl
      have fy0 := frozen_of_row _ _ 0 _ _ HU4.out.2.1
      have y1 := row_cell HU4.out.2.1 1 _ rfl
      have fy1 := frozen_of_row _ _ 1 _ _ HU4.out.2.1
      have y2 := row_cell HU4.out.2.1 2 _ rfl
      have fy2 := frozen_of_row _ _ 2 _ _ HU4.out.2.1
      go_wp2_with (go_at_call 50; refine (cR _ HRW.out).out.mono ?_; clear cR; rintro r v5 ⟨rfl, hg⟩; have hy := (hg.block (lt_of_row HU4.out.2.1)).trans HU4.out.2.1; have HY := Lib.hid (And.intro (HU4.out.1.trans hg) (And.intro hy (HU4.out.2.2.2.1.gr hg))); have y0 := row_cell hy 0 _ rfl; have fy0 := frozen_of_row _ _ 0 _ _ hy; have y1 := row_cell hy 1 _ rfl; have fy1 := frozen_of_row _ _ 1 _ _ hy; have y2 := row_cell hy 2 _ rfl; have fy2 := frozen_of_row _ _ 2 _ _ hy; have hn4 := (hg.block (lt_of_row HU4.out.2.2.1)).trans HU4.out.2.2.1; have n0 := row_cell hn4 0 _ rfl; have n1 := row_cell hn4 1 _ rfl; have n2 := row_cell hn4 2 _ rfl; clear hg hy hn4)
      refine bodyPost_ret (results_cell_tmp_row rfl _ _ (g + 1) _ #[.bool false, .slice none 0 0, .slice none 0 0] (0, 0) (.struct _) rfl (heap_setCell_same _ _ 2 _ _ (.slice none 0 0) (heap_setCell_same _ _ 1 _ _ (.slice none 0 0) (heap_setCell_same _ _ 0 _ _ (.bool false) HY.out.2.1))) Try.underlying27 rfl (by kernel_rfl)) rfl ⟨.slice none 0 0, .slice none 0 0, rfl, .inr ⟨rfl, [], rfl, none, 0, rfl, .inl rfl, by simp, by decide⟩, ((((Ch.refl (g + 1) v5).setCell 0 (.bool false)).setCell 1 (.slice none 0 0)).setCell 2 (.slice none 0 0)).gr HY.out.1 hgw⟩
  · have heb : (be == 0) = false := by simp [he]
    have heb2 : (be != 0) = true := by simp [he]
    obtain rfl := hcs he
    simp only [List.length_nil] at *
    have n0 := row_cell HU4.out.2.2.1 0 _ rfl
    have n1 := row_cell HU4.out.2.2.1 1 _ rfl
    have n2 := row_cell HU4.out.2.2.1 2 _ rfl
    have y0 := row_cell HU4.out.2.1 0 _ rfl
    have fy0 := frozen_of_row _ _ 0 _ _ HU4.out.2.1
    have y1 := row_cell HU4.out.2.1 1 _ rfl
    have fy1 := frozen_of_row _ _ 1 _ _ HU4.out.2.1
    have y2 := row_cell HU4.out.2.1 2 _ rfl
    have fy2 := frozen_of_row _ _ 2 _ _ HU4.out.2.1
    go_wp2
    refine bodyPost_ret (results_cell_tmp_row rfl _ _ (g + 1) _ #[.bool false, .slice none 0 0, .slice none 0 0] (0, 0) (.struct _) rfl (heap_setCell_same _ _ 2 _ _ (.slice none 0 0) (heap_setCell_same _ _ 1 _ _ (.slice none 0 0) (heap_setCell_same _ _ 0 _ _ (.bool false) HU4.out.2.1))) Try.underlying27 rfl (by kernel_rfl)) rfl ⟨.slice none 0 0, .slice none 0 0, by rw [(HZ.out.1 he).2]; rfl, by rw [(HZ.out.1 he).1]; exact .inr ⟨rfl, [], rfl, none, 0, rfl, .inl rfl, by simp, by decide⟩, ((((Ch.refl (g + 1) U4).setCell 0 (.bool false)).setCell 1 (.slice none 0 0)).setCell 2 (.slice none 0 0)).gr HU4.out.1 hgw⟩
end Go.Proofs.Ytmpmfgkabjedpaa
namespace Go.Proofs.Ytmpmfgkabjedpaa
open Go.RowKit
set_option linter.unusedVariables false
set_option linter.unusedSimpArgs false
structure Rf {α : Type} (e nn : Nat) (enc : α → List Value) (w wr : World) (b : Nat) (A : Option Addr) (cap : Nat) (l : List α) (S : ByteArray) (er : Int) : Prop where
  gr : Gr w wr
  r : RdAt wr b S er
  own : Own wr (b + 1) e nn enc A cap l
  lo : w.heap.size ≤ b
structure Rc {α : Type} (e nn : Nat) (enc : α → List Value) (w wr : World) (b cc : Nat) (T : TypeId) (cs : Array Value) (A : Option Addr) (cap : Nat) (l : List α) (S : ByteArray) (er : Int) : Prop where
  f : Rf e nn enc w wr b A cap l S er
  row : wr.heap[cc]? = some (.cells cs T (0, 0))
  hb : b < cc
  hA : ownOf A ≠ some cc
section
variable {α : Type} {e nn : Nat} {enc : α → List Value} {w wr w' : World} {b cc : Nat} {T : TypeId} {cs : Array Value} {A : Option Addr} {cap : Nat} {l : List α} {S : ByteArray} {er : Int}
theorem Rf.sep (h : Rf e nn enc w wr b A cap l S er) : ownOf A ≠ some b := by
  intro he
  have := (h.own.lt he).2
  omega
theorem Rf.gr' (h : Rf e nn enc w wr b A cap l S er) (hg : Gr wr w') : Rf e nn enc w w' b A cap l S er :=
  ⟨h.gr.trans hg, h.r.gr hg, h.own.gr hg, h.lo⟩
theorem Rf.ch {S' : ByteArray} {er' : Int} (h : Rf e nn enc w wr b A cap l S er) (hc : Ch b wr w') (hr : RdAt w' b S' er') : Rf e nn enc w w' b A cap l S' er' :=
  ⟨hc.gr h.gr h.lo, hr, h.own.ch hc h.sep, h.lo⟩
theorem Rf.push {A' : Option Addr} {cap' n : Nat} {l' : List α} (h : Rf e nn enc w wr b A cap l S er) (hg : wr.grownBy w' (Value.slice A n cap).ownBlock) (ho : Own w' (b + 1) e nn enc A' cap' l') : Rf e nn enc w w' b A' cap' l' S er := by
  have hl := h.lo
  have h1 := h.r.lt
  have hs := h.sep
  rw [ownOf_eq] at hg
  have hb : ∀ j, j < wr.heap.size → ownOf A ≠ some j → w'.heap[j]? = wr.heap[j]? := fun j hj hne => hg.block j hj (fun he => hne he.symm)
  refine ⟨⟨hg.os.trans (Below.os h.gr), hg.tape.trans (Below.tape h.gr), hg.output.trans (Below.output h.gr), Nat.le_trans (Below.size h.gr) hg.size, fun j hj => ?_⟩, ?_, ho, h.lo⟩
  · rw [hb j (Nat.lt_of_lt_of_le hj (Below.size h.gr)) (fun he => by have := (h.own.lt he).2; omega)]
    exact Below.block h.gr j hj
  · exact h.r.of_block (hb b h1 hs)
theorem Rc.start (h : Rf e nn enc w wr b A cap l S er) (T : TypeId) (cs : Array Value) : Rc e nn enc w (wr.alloc (.cells cs T)) b wr.heap.size T cs A cap l S er :=
  ⟨h.gr' ((Gr.refl wr).alloc _), heap_alloc_last wr _, h.r.lt, fun he => by have := (h.own.lt he).1; omega⟩
theorem Rc.gr' (h : Rc e nn enc w wr b cc T cs A cap l S er) (hg : Gr wr w') : Rc e nn enc w w' b cc T cs A cap l S er :=
  ⟨h.f.gr' hg, (hg.block (lt_of_row h.row)).trans h.row, h.hb, h.hA⟩
theorem Rc.ch {S' : ByteArray} {er' : Int} (h : Rc e nn enc w wr b cc T cs A cap l S er) (hc : Ch b wr w') (hr : RdAt w' b S' er') : Rc e nn enc w w' b cc T cs A cap l S' er' :=
  ⟨h.f.ch hc hr, (hc.block cc (lt_of_row h.row) (by have := h.hb; omega)).trans h.row, h.hb, h.hA⟩
theorem Rc.set (h : Rc e nn enc w wr b cc T cs A cap l S er) (i : Nat) (v : Value) : Rc e nn enc w (wr.setCell ⟨cc, i, none⟩ v) b cc T (cs.setIfInBounds i v) A cap l S er := by
  have hb := h.hb
  refine ⟨⟨?_, h.f.r.of_block (Below.heap_setCell _ _ _ _ (by show b ≠ cc; omega)), h.f.own.of_block fun g hg => Below.heap_setCell _ _ _ _ (fun hh => h.hA (by rw [hg, hh])), h.f.lo⟩, heap_setCell_same _ _ i _ _ _ h.row, h.hb, h.hA⟩
  exact h.f.gr.setCell (p := ⟨cc, i, none⟩) (by have := h.f.lo; show w.heap.size ≤ cc; omega) v
theorem Own.map {β : Type} {f : α → β} {encb : β → List Value} {base : Nat} (h : Own w base e nn (fun x => encb (f x)) A cap l) : Own w base e nn encb A cap (l.map f) := by
  unfold Own at *
  rw [List.length_map, List.flatMap_map]
  exact h
/-- the first k cells are l; t is ahead (whatever the slots say) -/
def Mir (byt : α → ByteArray) (can : α → Prop) (D : List UInt8) (count k : Nat) (l : List α) (t : List UInt8) : Prop :=
  l.length = k ∧ (∀ x ∈ l, can x) ∧ D.drop (2 * count) = slCells (l.map byt) ++ t
variable {get : ByteArray → Int → α × ByteArray × Int} {byt : α → ByteArray} {can : α → Prop}
theorem Mir.start (D : List UInt8) (count : Nat) : Mir byt can D count 0 [] (D.drop (2 * count)) := ⟨rfl, fun x hx => by simp at hx, by simp [slCells]⟩
theorem Mir.split (h : Rdg get byt can) {D : List UInt8} {count k : Nat} {l L : List α} {t : List UInt8} (hm : Mir byt can D count k l t) (hL : Lay byt can D count L) (hk : k ≤ count) : L.take k = l ∧ slCells ((L.drop k).map byt) = t := by
  have := h.pre l L t hm.2.1 hL.2.1 (by rw [hm.1, hL.1]; exact hk) (by rw [← hL.drop, hm.2.2])
  rwa [hm.1] at this
theorem Mir.bad (h : Rdg get byt can) {D : List UInt8} {count k : Nat} {l L : List α} {t : List UInt8} (hm : Mir byt can D count k l t) (hL : Lay byt can D count L) (hk : k < count) : (get (B t) 0).2.2 = 0 := by
  obtain ⟨h1, h2⟩ := hm.split h hL (Nat.le_of_lt hk)
  have hlt : k < L.length := by rw [hL.1]; exact hk
  rw [List.drop_eq_getElem_cons hlt, List.map_cons, slCells_cons] at h2
  rw [← h2, h.ahead _ (hL.2.1 _ (List.getElem_mem hlt))]
theorem Mir.push (h : Rdg get byt can) {D : List UInt8} {count k : Nat} {l : List α} {t : List UInt8} (hm : Mir byt can D count k l t)
    {x : α} {t' : ByteArray} (hg : get (B t) 0 = (x, t', 0)) : Mir byt can D count (k + 1) (l ++ [x]) t'.data.toList := by
  obtain ⟨hc, he⟩ := h.back _ _ _ hg
  have he2 : t = (byt x).data.toList ++ t'.data.toList := by
    have := congrArg (fun b : ByteArray => b.data.toList) he
    simpa [B] using this
  refine ⟨by rw [List.length_append, hm.1]; rfl, fun y hy => ?_, ?_⟩
  · rcases List.mem_append.1 hy with hy | hy
    · exact hm.2.1 y hy
    · simp only [List.mem_singleton] at hy; subst hy; exact hc
  · rw [hm.2.2, he2, List.map_append, slCells_append]
    simp [slCells]
theorem Mir.same (h : Rdg get byt can) {D : List UInt8} {count : Nat} {l L : List α} {t : List UInt8} (hm : Mir byt can D count count l t) (hL : Lay byt can D count L) : L = l := by
  obtain ⟨h1, h2⟩ := hm.split h hL (Nat.le_refl _)
  rwa [List.take_of_length_le (by rw [hL.1]; exact Nat.le_refl _)] at h1
end
end Go.Proofs.Ytmpmfgkabjedpaa
namespace Go.Proofs.Ytmpmfgkabjedpaa
open Go.RowKit
set_option linter.unusedVariables false
set_option linter.unusedSimpArgs false
set_option maxHeartbeats 400000
theorem rref_take (b : Nat) (s : ByteArray) (hs : s.size ≤ maxLen) (e n : Int) (w : World) (h : RdAt w b s e) :
    Calls Try.prog 101 #[.pointer (some ⟨b, 0, none⟩), .int .i64 n] w fun x w' => x = .returned (.string (rdTake s e n).1) ∧ RdAt w' b (rdTake s e n).2.1 (rdTake s e n).2.2 ∧ Ch b w w' := by
  have H := Lib.hid h
  obtain ⟨h1, h2, h3, h4⟩ := h
  unfold maxLen at hs
  by_cases he : e = 0
  · by_cases hn : n < 0 ∨ (s.size : Int) < n
    · have hr : Hid (rdTake s e n = (ByteArray.empty, s, 3)) := by unfold Hid rdTake; rw [if_neg (by omega), if_pos hn]
      have he0 : (e != 0) = false := by simp [he]
      rw [hr.out]
      clear he
      rcases hn with hn | hn
      all_goals
        go_enter Try.func101, Try.ntmps101
        go_wp2
        go_ret
        exact ⟨rfl, H.out.setE 3, (Ch.refl b w).setCell 1 _⟩
    · have hr : Hid (rdTake s e n = (s.extract 0 n.toNat, s.extract n.toNat s.size, e)) := by unfold Hid rdTake; rw [if_neg (by omega), if_neg hn]
      have he0 : (e != 0) = false := by simp [he]
      rw [hr.out]
      clear he
      have g1 : ¬ n < 0 := fun x => hn (.inl x)
      have g2 : ¬ (s.size : Int) < n := fun x => hn (.inr x)
      have g3 : 0 ≤ n := by omega
      have g4 : n ≤ (s.size : Int) := by omega
      clear hn
      go_enter Try.func101, Try.ntmps101
      go_wp2
      go_ret
      exact ⟨rfl, H.out.setS _, (Ch.refl b w).setCell 0 _⟩
  · have hr : Hid (rdTake s e n = (ByteArray.empty, s, e)) := by unfold Hid rdTake; rw [if_pos he]
    have he0 : (e != 0) = true := by simp [he]
    rw [hr.out]
    clear he
    go_enter Try.func101, Try.ntmps101
    go_wp2
    go_ret
    exact ⟨rfl, H.out, Ch.refl b w⟩
theorem Oct.mul_eq (m : Nat) (hm : m < 72057594037927936) (b : UInt8) : IntKind.u64.wrap ((m : Int) * 256 + IntKind.u64.wrap (b.toNat : Int)) = ((m * 256 + b.toNat : Nat) : Int) := by
  have hb := b.toNat_lt
  rw [wrap_u64_of b.toNat (by unfold U64; omega), show ((m : Int) * 256 + (b.toNat : Int)) = ((m * 256 + b.toNat : Nat) : Int) by omega, wrap_u64_of _ (by unfold U64; omega)]
theorem rref_num (b : Nat) (s : ByteArray) (hs : s.size ≤ maxLen) (e : Int) (k : Nat) (hk : k ≤ 8) (w : World) (h : RdAt w b s e) :
    Calls Try.prog 102 #[.pointer (some ⟨b, 0, none⟩), .int .i64 k] w fun x w' => x = .returned (.int .u64 (rdNum s e k).1) ∧ RdAt w' b (rdNum s e k).2.1 (rdNum s e k).2.2 ∧ Ch b w w' := by
  obtain ⟨t, s', e', hq⟩ : ∃ t s' e', rdTake s e k = (t, s', e') := ⟨_, _, _, rfl⟩
  have hz := (rdTake_size s e k).2.2
  have hT := rref_take b s hs e k w h
  have hN : rdNum s e k = (Oct.num t.data.toList, s', e') := by unfold rdNum; rw [hq]
  rw [hN]
  rw [hq] at hz hT
  have HT := Lib.hid hT
  have hts : t.size ≤ 8 := by simp only at hz; omega
  clear hz hq hT hN
  go_enter Try.func102, Try.ntmps102
  go_wp2_with (go_at_call 101; refine HT.out.mono ?_; rintro x w1 ⟨rfl, hr, hc⟩)
  have HR := Lib.hid (And.intro hr hc)
  clear hr hc
  go_loop [6, 7] (fun x i => ∃ j : Nat, j ≤ t.size ∧ i = .int .i64 j ∧ x = .int .u64 (Oct.num (t.data.toList.take j) : Nat)) (fun _ i => t.size - (intOf i).toNat)
  case atStart => exact ⟨0, by omega, rfl, rfl⟩
  case round =>
    obtain ⟨j, hj, rfl, rfl⟩ := hrel
    have HT := fun h => Lib.hid (Oct.num_take t j h)
    by_cases hlt : j < t.size
    · have hl := Oct.num_take_lt t j (by omega)
      generalize Oct.num (t.data.toList.take j) = m at *
      go_wp2
      go_round
      case rel => exact ⟨j + 1, by omega, by go_num, by rw [(HT hlt).out, Oct.mul_eq m hl]⟩
      case measure => simp [intOf]; omega
    · obtain rfl : j = t.size := by omega
      go_wp2
      go_ret
      exact ⟨ret_int (by rw [List.take_of_length_le (by simp)]), HR.out.1, HR.out.2⟩
end Go.Proofs.Ytmpmfgkabjedpaa
