/- Layer 1: things summed by their bytes: numbers, none, one. -/
import Derived.Test.YtlkkgnidcgochaaCrcSummer
namespace Go.Proofs.Ytlkkgnidcgochaa
open Go.RowKit
set_option linter.unusedVariables false
set_option linter.unusedSimpArgs false
set_option maxRecDepth 100000
set_option maxHeartbeats 1000000
def flatN (xs : List Nat) : List UInt8 := xs.flatMap fun n => Oct.be n 2
theorem Crc.add_flatN (xs : List Nat) (k : Nat) (h : k < xs.length) : Crc.add Crc.byt (Crc.add Crc.byt 0 (flatN (xs.take k))) (Oct.be xs[k] 2) = Crc.add Crc.byt 0 (flatN (xs.take (k + 1))) := by
  rw [Crc.add_append Crc.byt_tab (by decide), List.take_succ_eq_append_getElem h]
  unfold flatN
  rw [List.flatMap_append]
  congr 2
theorem Crc.flatN_nil : Crc.add Crc.byt 0 (flatN []) = 0 := by
  show 4294967295 - (4294967295 - 0) = 0
  omega
theorem crc_neq_n (w : World) : (binOp .neq 41 (.func (.func 47) #[] #[]) .nilFunc).run Try.prog w = .ok (.bool true) w := by kernel_rfl
theorem crc_all_n (b : Nat) (A : Option Addr) (cap : Nat) (xs : List Nat) (hcap : xs.length ≤ cap) (hcm : cap ≤ maxLen) (hsz : ∀ x ∈ xs, x < 65536) (w : World) (hc : Crc.At w b Crc.byt) (hx : SliceAt w A 1 u16Cell xs) :
    Calls Try.prog 52 #[.agg #[.pointer (some ⟨b, 0, none⟩), .func (.func 47) #[] #[]], .slice A xs.length cap] w fun e w' => e = .returned (.int .u32 (Crc.add Crc.byt 0 (flatN xs) : Nat)) ∧ Gr w w' := by
  unfold maxLen at hcm
  have HH := Lib.hid (And.intro hc (And.intro hx hsz))
  clear hc hx hsz
  have hneq := crc_neq_n
  go_enter Try.func52, Try.ntmps52
  go_wp2
  have hw0 := heap_alloc_last w (.cells #[.pointer (some ⟨b, 0, none⟩), .func (.func 47) #[] #[]] 74)
  have HW : Hid ((w.alloc (.cells #[.pointer (some ⟨b, 0, none⟩), .func (.func 47) #[] #[]] 74)).cell? ⟨w.heap.size, 0, none⟩ = some (.pointer (some ⟨b, 0, none⟩)) ∧ (w.alloc (.cells #[.pointer (some ⟨b, 0, none⟩), .func (.func 47) #[] #[]] 74)).cell? ⟨w.heap.size, 1, none⟩ = some (.func (.func 47) #[] #[]) ∧ Gr w (w.alloc (.cells #[.pointer (some ⟨b, 0, none⟩), .func (.func 47) #[] #[]] 74))) :=
    ⟨by rw [cell_of_row _ _ 0 _ _ _ hw0]; rfl, by rw [cell_of_row _ _ 1 _ _ _ hw0]; rfl, (Gr.refl w).alloc _⟩
  clear hw0
  generalize w.alloc (.cells #[.pointer (some ⟨b, 0, none⟩), .func (.func 47) #[] #[]] 74) = W at *
  generalize w.heap.size = g at *
  go_loopw [5, 10] (fun x i wr => ∃ k : Nat, k ≤ xs.length ∧ i = .int .i64 k ∧ Hid (Gr W wr) ∧ x = .int .u32 (Crc.add Crc.byt 0 (flatN (xs.take k)) : Nat)) (fun _ i _ => xs.length - (intOf i).toNat)
  case atStart => exact ⟨0, by omega, rfl, Gr.refl _, by rw [List.take_zero, Crc.flatN_nil]; rfl⟩
  case round =>
    obtain ⟨k, hk, rfl, HD, rfl⟩ := hrel
    by_cases hlt : k < xs.length
    · have HS := Lib.hid (Crc.add_flatN xs k hlt)
      have hl := Crc.add_lt Crc.byt 0 (flatN (xs.take k))
      generalize Crc.add Crc.byt 0 (flatN (xs.take k)) = t at *
      rcases HH.out.2.1 with h0 | ⟨a, off, rfl, hcell⟩
      · subst h0; simp at hlt
      · have hz := HH.out.2.2 xs[k] (List.getElem_mem hlt)
        have hc0 := (HW.out.2.2.trans HD.out).cells (hcell k xs[k] (List.getElem?_eq_getElem hlt) 0 _ rfl)
        simp only [Nat.add_zero, Nat.mul_one] at hc0
        have q0 := HD.out.cells HW.out.1
        have q1 := HD.out.cells HW.out.2.1
        have HA : Hid (Crc.At wr b Crc.byt) := HH.out.1.gr (HW.out.2.2.trans HD.out)
        have HK := Lib.hid hcell
        clear hcell
        generalize xs[k] = s at *
        have zz : (B (Oct.be s 2)).size ≤ maxLen := by rw [B_be_size]; decide
        go_wp2
        go_region_held3 (fun w' => w'.cell? ⟨g, 0, none⟩ = some (.pointer (some ⟨b, 0, none⟩)) ∧ w'.cell? ⟨g, 1, none⟩ = some (.func (.func 47) #[] #[]))
          (first | exact ⟨q0, q1⟩ | exact HQ.out | assumption)
          (first
            | (go_at_call 47; refine (crc_pair s hz _).mono ?_; rintro e v1 ⟨rfl, hg1⟩; have HV : Hid (Gr wr v1) := (Gr.refl wr).drew.trans hg1; have HQ : Hid (v1.cell? ⟨g, 0, none⟩ = some (.pointer (some ⟨b, 0, none⟩)) ∧ v1.cell? ⟨g, 1, none⟩ = some (.func (.func 47) #[] #[])) := ⟨HV.out.cells q0, HV.out.cells q1⟩; clear hg1)
            | (go_at_call 17; refine (crc_add Crc.byt Crc.byt_tab b t hl (B (Oct.be s 2)) zz _ (by exact HA.out.gr HV.out)).mono ?_; rintro e v2 ⟨rfl, qd, rfl⟩; have HQ := Lib.hid (And.intro (((Gr.refl v1).drewN qd).cells HQ.out.1) (((Gr.refl v1).drewN qd).cells HQ.out.2))))
        go_wp2
        go_roundw
        case rel => exact ⟨k + 1, by omega, by go_num, (HD.out.trans HV.out).drewN _, by rw [← HS.out]; rfl⟩
        case measure => simp [intOf]; omega
    · obtain rfl : k = xs.length := by omega
      go_wp2
      go_ret
      exact ⟨ret_int (by rw [List.take_length]), HW.out.2.2.trans HD.out⟩
theorem crc_all_z (v : Option Addr) (A : Option Addr) (cap : Nat) (xs : List ByteArray) (hcap : xs.length ≤ cap) (hcm : cap ≤ maxLen) (w : World) (hx : SliceAt w A 1 strCell xs) :
    Calls Try.prog 50 #[.agg #[.pointer v, .nilFunc], .slice A xs.length cap] w fun e w' => e = .returned (.int .u32 0) ∧ Gr w w' := by
  unfold maxLen at hcm
  have HH := Lib.hid hx
  clear hx
  have hneq : ∀ w, (binOp .neq 45 .nilFunc .nilFunc).run Try.prog w = .ok (.bool false) w := fun _ => by kernel_rfl
  go_enter Try.func50, Try.ntmps50
  go_wp2
  have hw0 := heap_alloc_last w (.cells #[.pointer v, .nilFunc] 71)
  have HW : Hid ((w.alloc (.cells #[.pointer v, .nilFunc] 71)).cell? ⟨w.heap.size, 1, none⟩ = some .nilFunc ∧ Gr w (w.alloc (.cells #[.pointer v, .nilFunc] 71))) :=
    ⟨by rw [cell_of_row _ _ 1 _ _ _ hw0]; rfl, (Gr.refl w).alloc _⟩
  clear hw0
  generalize w.alloc (.cells #[.pointer v, .nilFunc] 71) = W at *
  generalize w.heap.size = g at *
  go_loop [5, 10] (fun x i => ∃ k : Nat, k ≤ xs.length ∧ i = .int .i64 k ∧ x = .int .u32 0) (fun _ i => xs.length - (intOf i).toNat)
  case atStart => exact ⟨0, by omega, rfl, rfl⟩
  case round =>
    obtain ⟨k, hk, rfl, rfl⟩ := hrel
    by_cases hlt : k < xs.length
    · rcases HH.out with h0 | ⟨a, off, rfl, hcell⟩
      · subst h0; simp at hlt
      · have hc0 := HW.out.2.cells (hcell k xs[k] (List.getElem?_eq_getElem hlt) 0 _ rfl)
        simp only [Nat.add_zero, Nat.mul_one] at hc0
        have q1 := HW.out.1
        have HK := Lib.hid hcell
        clear hcell
        go_wp2
        go_round
        case rel => exact ⟨k + 1, by omega, by go_num, rfl⟩
        case measure => simp [intOf]; omega
    · obtain rfl : k = xs.length := by omega
      go_wp2
      go_ret
      exact ⟨rfl, HW.out.2⟩
theorem crc_one_s (b : Nat) (s : ByteArray) (hs : s.size ≤ maxLen) (w : World) (hc : Crc.At w b Crc.byt) :
    Calls Try.prog 49 #[.agg #[.pointer (some ⟨b, 0, none⟩), .func (.func 46) #[] #[]], .string s] w fun e w' => e = .returned (.int .u32 (Crc.add Crc.byt 0 s.data.toList : Nat)) ∧ Gr w w' := by
  have HG : Hid (Gr w ((w.alloc (.cells #[.pointer (some ⟨b, 0, none⟩), .func (.func 46) #[] #[]] 71)).alloc (.cells #[.string s] 9))) := ((Gr.refl w).alloc _).alloc _
  have HC : Hid (Crc.At ((w.alloc (.cells #[.pointer (some ⟨b, 0, none⟩), .func (.func 46) #[] #[]] 71)).alloc (.cells #[.string s] 9)) b Crc.byt) := hc.gr HG.out
  clear hc
  have HS : Hid (SliceAt ((w.alloc (.cells #[.pointer (some ⟨b, 0, none⟩), .func (.func 46) #[] #[]] 71)).alloc (.cells #[.string s] 9)) (some ⟨w.heap.size + 1, 0, none⟩) 1 strCell [s]) := by
    refine .inr ⟨_, _, rfl, fun i x hx j u hu => ?_⟩
    have h := heap_alloc2_new w (.cells #[.pointer (some ⟨b, 0, none⟩), .func (.func 46) #[] #[]] 71) (.cells #[.string s] 9)
    match i, hx with
    | 0, hx =>
      simp at hx
      subst hx
      match j, hu with
      | 0, hu =>
        simp [strCell] at hu
        subst hu
        rw [cell_of_row _ _ _ _ _ _ h]; rfl
      | j + 1, hu => simp [strCell] at hu
    | i + 1, hx => simp at hx
  go_enter Try.func49, Try.ntmps49
  go_wp2_with (go_at_call 50; refine (crc_all_s b (some ⟨w.heap.size + 1, 0, none⟩) 1 [s] (Nat.le_refl _) (by decide) (fun x hx => by simp at hx; subst hx; exact hs) _ (by exact HC.out) (by exact HS.out)).mono ?_; rintro e w2 ⟨rfl, hg⟩)
  go_ret
  exact ⟨ret_int (by simp [flat]), HG.out.trans hg⟩
theorem crc_one_z (v : Option Addr) (s : ByteArray) (hs : s.size ≤ maxLen) (w : World) :
    Calls Try.prog 49 #[.agg #[.pointer v, .nilFunc], .string s] w fun e w' => e = .returned (.int .u32 (0)) ∧ Gr w w' := by
  have HG : Hid (Gr w ((w.alloc (.cells #[.pointer v, .nilFunc] 71)).alloc (.cells #[.string s] 9))) := ((Gr.refl w).alloc _).alloc _
  have HS : Hid (SliceAt ((w.alloc (.cells #[.pointer v, .nilFunc] 71)).alloc (.cells #[.string s] 9)) (some ⟨w.heap.size + 1, 0, none⟩) 1 strCell [s]) := by
    refine .inr ⟨_, _, rfl, fun i x hx j u hu => ?_⟩
    have h := heap_alloc2_new w (.cells #[.pointer v, .nilFunc] 71) (.cells #[.string s] 9)
    match i, hx with
    | 0, hx =>
      simp at hx
      subst hx
      match j, hu with
      | 0, hu =>
        simp [strCell] at hu
        subst hu
        rw [cell_of_row _ _ _ _ _ _ h]; rfl
      | j + 1, hu => simp [strCell] at hu
    | i + 1, hx => simp at hx
  go_enter Try.func49, Try.ntmps49
  go_wp2_with (go_at_call 50; refine (crc_all_z v (some ⟨w.heap.size + 1, 0, none⟩) 1 [s] (Nat.le_refl _) (by decide) _ (by exact HS.out)).mono ?_; rintro e w2 ⟨rfl, hg⟩)
  go_ret
  exact ⟨rfl, HG.out.trans hg⟩
end Go.Proofs.Ytlkkgnidcgochaa
