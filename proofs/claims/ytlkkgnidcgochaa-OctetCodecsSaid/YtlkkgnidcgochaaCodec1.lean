/- Layer 3: the law's pairs: how they are bytes; a codec's one thing. -/
import Derived.Test.YtlkkgnidcgochaaOctWr
import Derived.Test.YtlkkgnidcgochaaOctText
import Derived.Test.YtlkkgnidcgochaaOwn
import Derived.Laws.EntriesVeiled
namespace Go.Proofs.Ytlkkgnidcgochaa
open Go.RowKit
set_option linter.unusedVariables false
set_option linter.unusedSimpArgs false
set_option maxRecDepth 100000
set_option maxHeartbeats 1000000
abbrev Pr := Nat × ByteArray
def prCell (x : Pr) : List Value := [.int .u16 (x.1 : Nat), .string x.2]
def prVal (x : Pr) : Value := .agg #[.int .u16 (x.1 : Nat), .string x.2]
def prBytes (x : Pr) : ByteArray := B (Oct.be x.1 2) ++ Oct.text x.2
def prC : Value := .agg #[.func (.func 66) #[] #[], .func (.func 67) #[] #[]]
def rdPair (s : ByteArray) (e : Int) : Pr × ByteArray × Int := (((rdNum s e 2).1, (rdText (rdNum s e 2).2.1 (rdNum s e 2).2.2 100).1), (rdText (rdNum s e 2).2.1 (rdNum s e 2).2.2 100).2)
theorem rdPair_size (s : ByteArray) (e : Int) : (rdPair s e).1.1 < 65536 ∧ (rdPair s e).1.2.size ≤ s.size ∧ (rdPair s e).2.1.size ≤ s.size := by
  have h1 := rdNum_lt s e 2
  have h2 := rdNum_size s e 2
  have h3 := rdText_size (rdNum s e 2).2.1 (rdNum s e 2).2.2 100
  exact ⟨h1, Nat.le_trans h3.1 h2, Nat.le_trans h3.2 h2⟩
theorem cod_put (x : Pr) (h1 : x.1 < 65536) (h2 : x.2.size ≤ 4611686018427387904) (w : World) :
    Calls Try.prog 66 #[.agg #[.int .u16 (x.1 : Nat), .string x.2]] w fun r w' => r = .returned (.string (prBytes x)) ∧ Gr w w' := by
  obtain ⟨n, s⟩ := x
  simp only at h1 h2
  have hz := B_be_size n 2
  have hz2 := Oct.text_size s
  have hno : ¬ (9223372036854775807 < 2 + (s.size + 4)) := by omega
  have HB : Hid (prBytes (n, s) = B (Oct.be n 2) ++ Oct.text s) := rfl
  have c2 := fun w1 => Lib.hid (oct_two n h1 w1)
  have c3 := fun w1 => Lib.hid (oct_text s h2 w1)
  generalize prBytes (n, s) = q at *
  generalize B (Oct.be n 2) = a at *
  generalize Oct.text s = t at *
  go_enter Try.func66, Try.ntmps66
  go_wp2
  have hw0 := heap_alloc_last w (.cells #[.int .u16 n, .string s] 87)
  have HW : Hid (Gr w (w.alloc (.cells #[.int .u16 n, .string s] 87))) := (Gr.refl w).alloc _
  have q0 : (w.alloc (.cells #[.int .u16 n, .string s] 87)).cell? ⟨w.heap.size, 0, none⟩ = some (.int .u16 n) := by rw [cell_of_row _ _ 0 _ _ _ hw0]; rfl
  have q1 : (w.alloc (.cells #[.int .u16 n, .string s] 87)).cell? ⟨w.heap.size, 1, none⟩ = some (.string s) := by rw [cell_of_row _ _ 1 _ _ _ hw0]; rfl
  clear hw0
  generalize w.alloc (.cells #[.int .u16 n, .string s] 87) = W at *
  generalize w.heap.size = g at *
  go_region_held3 (fun w' => w'.cell? ⟨g, 0, none⟩ = some (.int .u16 n) ∧ w'.cell? ⟨g, 1, none⟩ = some (.string s)) (first | exact ⟨q0, q1⟩ | exact HQ.out | assumption)
    (first
      | (go_at_call 24; refine (c2 _).out.mono ?_; rintro r v1 ⟨rfl, hg⟩; have HV : Hid (Gr W v1) := (Gr.refl W).drew.trans hg; have HQ := Lib.hid (And.intro (HV.out.cells q0) (HV.out.cells q1)); clear hg)
      | (go_at_call 27; refine (c3 _).out.mono ?_; rintro r v2 ⟨rfl, hg⟩; have HV2 : Hid (Gr W v2) := HV.out.trans hg; have HQ := Lib.hid (And.intro (HV2.out.cells q0) (HV2.out.cells q1)); clear hg))
  go_wp2
  go_ret
  exact ⟨ret_str HB.out.symm, HW.out.trans HV2.out⟩
theorem cod_get (b : Nat) (s : ByteArray) (hs : s.size ≤ maxLen) (e : Int) (w : World) (h : RdAt w b s e) :
    Calls Try.prog 67 #[.pointer (some ⟨b, 0, none⟩)] w fun r w' => r = .returned (.agg #[.int .u16 ((rdPair s e).1.1 : Nat), .string (rdPair s e).1.2]) ∧ RdAt w' b (rdPair s e).2.1 (rdPair s e).2.2 ∧ Ch b w w' := by
  have c1 := fun w1 h1 => oct_rdtwo b s hs e w1 h1
  have hs2 := Nat.le_trans (rdNum_size s e 2) hs
  have c2 := fun w1 h1 => oct_rdtext b (rdNum s e 2).2.1 hs2 (rdNum s e 2).2.2 100 (I64.nat (n := 100) (by omega)) w1 h1
  have HP : Hid (rdPair s e = (((rdNum s e 2).1, (rdText (rdNum s e 2).2.1 (rdNum s e 2).2.2 100).1), (rdText (rdNum s e 2).2.1 (rdNum s e 2).2.2 100).2)) := rfl
  generalize rdNum s e 2 = q at *
  generalize rdText q.2.1 q.2.2 100 = t at *
  generalize rdPair s e = z at *
  obtain rfl := HP.out
  have C2 := Lib.hid c2
  have C1 := Lib.hid c1
  have HR : Hid (RdAt (w.alloc (.cells #[.int .u16 0, .string { data := #[] }] 87)) b s e) := h.gr ((Gr.refl w).alloc _)
  have HN := Lib.hid (heap_alloc_last w (.cells #[.int .u16 0, .string { data := #[] }] 87))
  have HL := Lib.hid h.lt
  clear c1 c2
  go_enter Try.func67, Try.ntmps67
  go_wp2_with (first
    | (go_at_call 32; refine (C1.out _ HR.out).mono ?_; rintro r w1 ⟨rfl, hr1, hc1⟩)
    | (go_at_call 31; refine (C2.out _ hr1).mono ?_; rintro r w2 ⟨rfl, hr2, hc2⟩
       have HK : Hid (w2.heap[w.heap.size]? = some (.cells #[.int .u16 0, .string { data := #[] }] 87 (0, 0))) := ((hc1.trans hc2).block _ (by rw [alloc_size]; omega) (by have := HL.out; omega)).trans HN.out
       obtain ⟨d0, d1, d2, d3⟩ := At2.of_row HK.out
       have HZ := Lib.hid (And.intro hr2 ((Gr.refl w).alloc (.cells #[.int .u16 0, .string { data := #[] }] 87) |>.ch b |>.trans (hc1.trans hc2)))))
  refine bodyPost_ret (results_cell_row rfl _ _ w.heap.size _ #[.int .u16 (q.1 : Nat), .string t.1] (0, 0) (.struct _) rfl (heap_setCell_same _ _ 1 _ _ _ (heap_setCell_same _ _ 0 _ _ _ HK.out)) Try.underlying87 rfl (by kernel_rfl)) rfl ⟨rfl, ?_, ?_⟩
  · have h1 := HL.out
    exact (HZ.out.1.ch ((Ch.refl _ _).setCell 0 _) (by omega)).ch ((Ch.refl _ _).setCell 1 _) (by omega)
  · have h1 := HL.out
    exact (HZ.out.2.setFar (Nat.le_refl _) 0 _).setFar (Nat.le_refl _) 1 _
end Go.Proofs.Ytlkkgnidcgochaa
